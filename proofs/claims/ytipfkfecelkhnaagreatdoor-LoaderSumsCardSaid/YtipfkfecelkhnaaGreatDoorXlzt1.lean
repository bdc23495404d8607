/- The interpreter's functions, part 1: made by program (geny.py). -/
import Derived.Test.YtipfkfecelkhnaaGreatDoorXlzz
import Derived.Test.YtipfkfecelkhnaaGreatDoorProg
set_option maxRecDepth 100000
set_option linter.unusedVariables false
namespace Go.Proofs.YtipfkfecelkhnaaGreatDoor
open Go.Eng
/- tipstaff/loader.env -/
def xf86 : XF := ⟨2, [0, 1, 4, 5, 12, 11, 10, 7, 19, 20, 17, 21, 26, 27, 24, 28],
  (.seq
 (.new (some 2) 181 (.const (.agg #[(.slice none 0 0), (.slice none 0 0), (.bool false)])))
 (.seq
 (.seq
 (.chk [(.upd 2 1 (.const (.agg #[(.slice none 0 0), (.slice none 0 0), (.bool false)])) (.var 1))])
 (.seq
 (.new (some 3) 181 (.const (.agg #[(.slice none 0 0), (.slice none 0 0), (.bool false)])))
 (.store 3 (.var 3) (.upd 2 1 (.const (.agg #[(.slice none 0 0), (.slice none 0 0), (.bool false)])) (.var 1)) [])))
 (.seq
 (.seq
 (.seq
 (.set 6 (.var 0))
 (.seq
 (.set 5 (.len false (.var 6)))
 (.set 4 (.const (.int .i64 0)))))
 (.block 0
 (.loop [2, 3, 4, 5, 6]
 (.seq
 (.cond (.bin .lss (.var 4) (.var 5))
 .skip
 (.exit 0))
 (.seq
 (.block 1
 (.seq
 (.set 7 (.ld none (.ixSl 1 (.var 6) (.var 4))))
 (.seq
 (.seq
 .skip
 (.seq
 (.set 10 (.ld none (.offp 0 (.var 3))))
 (.seq
 (.call (some 8) 132 [(.var 7)] [(.ld none (.offp 0 (.var 3)))])
 (.seq
 (.row (some 9) 36 1 (.upd 0 4 (.const (.agg (Array.replicate 4 (.int .i64 0)))) (.var 8)))
 (.seq
 (.app (some 11) 36 4 (.var 10) (.var 9) [])
 (.store 1 (.offp 0 (.var 3)) (.var 11) []))))))
 (.seq
 .skip
 (.seq
 (.set 14 (.ld none (.offp 1 (.var 3))))
 (.seq
 (.call (some 12) 140 [(.var 7)] [(.ld none (.offp 1 (.var 3)))])
 (.seq
 (.row (some 13) 4 1 (.upd 0 1 (.const (.agg #[(.bool false)])) (.var 12)))
 (.seq
 (.app (some 15) 4 1 (.var 14) (.var 13) [])
 (.store 1 (.offp 1 (.var 3)) (.var 15) [])))))))))
 (.set 4 (.bin .add (.var 4) (.const (.int .i64 1)))))))))
 (.seq
 (.store 3 (.var 2) (.ld (some 3) (.var 3)) [])
 .ret)))),
  [(.ld (some 3) (.var 2))]⟩
theorem okx_86 : FnOk Tryz.prog 3 365 86 xf86 := fnOk_of Tryz.func86 (np := 2) (V := [0, 1, 4, 5, 12, 11, 10, 7, 19, 20, 17, 21, 26, 27, 24, 28]) (ks := [[2, 3, 4, 5, 6]]) (by kernel_rfl)

/- slices.Clone[[]*tipstaff/bmap.Map,*tipstaff/bmap.Map] -/
def xf88 : XF := ⟨1, [0, 2, 5, 7],
  (.seq
 (.set 1 (.const (.slice none 0 0)))
 (.seq
 (.cond (.isnil 1 false (.var 0))
 (.seq
 (.set 1 (.const (.slice none 0 0)))
 .ret)
 .skip)
 (.seq
 (.seq
 (.row (some 2) 56 0 (.const (.agg #[])))
 (.seq
 (.app (some 3) 56 1 (.var 2) (.var 0) [])
 (.set 1 (.var 3))))
 .ret))),
  [(.var 1)]⟩
theorem okx_88 : FnOk Tryz.prog 3 365 88 xf88 := fnOk_of Tryz.func88 (np := 1) (V := [0, 2, 5, 7]) (ks := []) (by kernel_rfl)

/- (*tipstaff/bmap.Map).lined -/
def xf89 : XF := ⟨1, [0, 2],
  (.seq
 (.set 1 (.const (.bool false)))
 (.seq
 (.set 1 (.pick (.bin .eql (.ld none (.offp 0 (.offp 0 (.nn (.var 0))))) (.const (.int .i64 3))) (.const (.bool true)) (.bin .eql (.ld none (.offp 0 (.offp 0 (.nn (.var 0))))) (.const (.int .i64 4)))))
 .ret)),
  [(.var 1)]⟩
theorem okx_89 : FnOk Tryz.prog 3 365 89 xf89 := fnOk_of Tryz.func89 (np := 1) (V := [0, 2]) (ks := []) (by kernel_rfl)

/- slices.IndexFunc[[]*tipstaff/bmap.entry,*tipstaff/bmap.entry] -/
def xf91 : XF := ⟨2, [0, 1, 4, 8, 7, 5, 16],
  (.seq
 (.set 2 (.const (.int .i64 0)))
 (.seq
 (.seq
 (.seq
 (.set 4 (.len false (.var 0)))
 (.set 3 (.const (.int .i64 0))))
 (.block 0
 (.loop [0, 1, 3, 4]
 (.seq
 (.cond (.bin .lss (.var 3) (.var 4))
 .skip
 (.exit 0))
 (.seq
 (.block 1
 (.seq
 (.set 5 (.var 3))
 (.seq
 (.dyn (some 6) (.var 1) [(.ld none (.ixSl 1 (.var 0) (.var 5)))] [])
 (.cond (.var 6)
 (.seq
 (.set 2 (.var 5))
 .ret)
 .skip))))
 (.set 3 (.bin .add (.var 3) (.const (.int .i64 1)))))))))
 (.seq
 (.set 2 (.const (.int .i64 (-1))))
 .ret))),
  [(.var 2)]⟩
theorem okx_91 : FnOk Tryz.prog 3 365 91 xf91 := fnOk_of Tryz.func91 (np := 2) (V := [0, 1, 4, 8, 7, 5, 16]) (ks := [[0, 1, 3, 4]]) (by kernel_rfl)

/- (*tipstaff/bmap.Map).exact$1 -/
def xf92 : XF := ⟨2, [0, 1, 3],
  (.seq
 (.set 2 (.const (.bool false)))
 (.seq
 (.seq
 .skip
 (.set 2 (.bin .eql (.ld none (.offp 0 (.nn (.var 0)))) (.ld none (.var 1)))))
 .ret)),
  [(.var 2)]⟩
theorem okx_92 : FnOk Tryz.prog 3 365 92 xf92 := fnOk_of Tryz.func92 (np := 2) (V := [0, 1, 3]) (ks := []) (by kernel_rfl)

/- tipstaff/canon.Slots -/
def xf99 : XF := ⟨1, [0, 2, 3, 4, 11, 5, 6, 14, 13, 12, 8, 7, 18, 20, 25, 9, 33, 34],
  (.seq
 (.seq
 (.set 1 (.const (.slice none 0 0)))
 (.seq
 (.set 2 (.const (.slice none 0 0)))
 (.set 3 (.const (.int .i64 0)))))
 (.seq
 (.seq
 (.call (some 4) 147 [(.var 0)] [])
 (.set 5 (.var 4)))
 (.seq
 (.set 6 (.const (.slice none 0 0)))
 (.seq
 (.seq
 (.seq
 (.set 9 (.var 5))
 (.seq
 (.set 8 (.len false (.var 9)))
 (.set 7 (.const (.int .i64 0)))))
 (.block 0
 (.loop [5, 6, 7, 8, 9]
 (.seq
 (.cond (.bin .lss (.var 7) (.var 8))
 .skip
 (.exit 0))
 (.seq
 (.block 1
 (.seq
 (.seq
 (.set 12 (.ld (some 5) (.ixSl 5 (.var 9) (.var 7))))
 (.seq
 (.new (some 10) 46 (.const zA2))
 (.seq
 (.set 11 (.var 7))
 (.store 5 (.var 10) (.var 12) []))))
 (.seq
 (.seq
 (.call (some 13) 148 [(.ld (some 5) (.var 10))] [])
 (.cond (.un .not (.var 13))
 (.exit 1)
 .skip))
 (.seq
 (.seq
 (.call (some 14) 149 [(.var 6), (.ld none (.offp 4 (.var 10)))] [])
 (.set 15 (.var 14)))
 (.seq
 (.cond (.bin .lss (.var 15) (.const (.int .i64 0)))
 (.seq
 (.set 15 (.len false (.var 6)))
 (.seq
 (.chk [(.var 6)])
 (.seq
 (.row (some 16) 21 1 (.upd 0 1 (.const (.agg #[(.int .i32 0)])) (.ld none (.offp 4 (.var 10)))))
 (.seq
 (.app (some 17) 21 1 (.var 6) (.var 16) [])
 (.set 6 (.var 17))))))
 .skip)
 (.store 1 (.offp 4 (.ixSl 5 (.var 5) (.var 11))) (.conv .i32 (.var 15)) []))))))
 (.set 7 (.bin .add (.var 7) (.const (.int .i64 1)))))))))
 (.seq
 (.cond (.bin .gtr (.len false (.var 6)) (.const (.int .i64 4)))
 (.seq
 (.seq
 (.set 1 (.const (.slice none 0 0)))
 (.seq
 (.set 2 (.const (.slice none 0 0)))
 (.set 3 (.const (.int .i64 7)))))
 .ret)
 .skip)
 (.seq
 (.seq
 (.chk [(.var 6)])
 (.seq
 (.set 1 (.var 5))
 (.seq
 (.set 2 (.var 6))
 (.set 3 (.const (.int .i64 0))))))
 .ret)))))),
  [(.var 1), (.var 2), (.var 3)]⟩
theorem okx_99 : FnOk Tryz.prog 3 365 99 xf99 := fnOk_of Tryz.func99 (np := 1) (V := [0, 2, 3, 4, 11, 5, 6, 14, 13, 12, 8, 7, 18, 20, 25, 9, 33, 34]) (ks := [[5, 6, 7, 8, 9]]) (by kernel_rfl)

/- (*tipstaff/bmap.Map).Sum -/
def xf100 : XF := ⟨1, [0, 2, 14, 3, 41, 42, 4, 45, 44, 43, 6, 54, 61, 62, 63, 66, 58],
  (.seq
 (.new (some 1) 40 (.const (.agg (Array.replicate 32 (.int .u8 0)))))
 (.seq
 (.cond (.isnil 0 false (.var 0))
 (.seq
 (.store 32 (.var 1) (.const (.agg (Array.replicate 32 (.int .u8 0)))) [])
 .ret)
 .skip)
 (.seq
 (.seq
 (.call (some 2) 150 [(.ld none (.offp 4 (.nn (.var 0))))] [])
 (.set 3 (.var 2)))
 (.seq
 (.call none 151 [(.var 3), (.const (.func (.func 152) #[] #[]))] [])
 (.seq
 (.seq
 .skip
 (.seq
 (.row (some 4) 5 4 (.upd 3 1 (.upd 2 1 (.upd 1 1 (.upd 0 1 (.const (.agg (Array.replicate 4 (.int .u8 0)))) (.conv .u8 (.ld none (.offp 0 (.offp 0 (.nn (.var 0))))))) (.conv .u8 (.ld none (.offp 1 (.offp 0 (.nn (.var 0))))))) (.conv .u8 (.ld none (.offp 2 (.offp 0 (.nn (.var 0))))))) (.conv .u8 (.ld none (.offp 3 (.offp 0 (.nn (.var 0))))))))
 (.seq
 (.row (some 5) 27 1 (.upd 0 1 (.const (.agg #[(.slice none 0 0)])) (.var 4)))
 (.set 6 (.var 5)))))
 (.seq
 (.seq
 (.seq
 (.set 9 (.var 3))
 (.seq
 (.set 8 (.len false (.var 9)))
 (.set 7 (.const (.int .i64 0)))))
 (.block 0
 (.loop [1, 6, 7, 8, 9]
 (.seq
 (.cond (.bin .lss (.var 7) (.var 8))
 .skip
 (.exit 0))
 (.seq
 (.block 1
 (.seq
 (.set 10 (.ld none (.ixSl 1 (.var 9) (.var 7))))
 (.seq
 .skip
 (.seq
 (.chk [(.ld none (.offp 0 (.nn (.var 10)))), (.var 6)])
 (.seq
 (.set 16 (.ld none (.offp 1 (.nn (.var 10)))))
 (.seq
 (.set 12 (.ld none (.offp 0 (.nn (.var 16)))))
 (.seq
 (.cvs (some 11) (.ld none (.offp 0 (.nn (.var 10)))) [(.ld none (.offp 0 (.nn (.var 16)))), (.ld none (.offp 1 (.nn (.var 10))))])
 (.seq
 (.row (some 13) 27 2 (.upd 1 1 (.upd 0 1 (.const (.agg #[(.slice none 0 0), (.slice none 0 0)])) (.var 11)) (.var 12)))
 (.seq
 (.app (some 14) 27 1 (.var 6) (.var 13) [])
 (.set 6 (.var 14)))))))))))
 (.set 7 (.bin .add (.var 7) (.const (.int .i64 1)))))))))
 (.seq
 (.seq
 (.call (some 15) 154 [(.var 6)] [])
 (.store 32 (.var 1) (.var 15) []))
 .ret))))))),
  [(.ld (some 32) (.var 1))]⟩
theorem okx_100 : FnOk Tryz.prog 3 365 100 xf100 := fnOk_of Tryz.func100 (np := 1) (V := [0, 2, 14, 3, 41, 42, 4, 45, 44, 43, 6, 54, 61, 62, 63, 66, 58]) (ks := [[1, 6, 7, 8, 9]]) (by kernel_rfl)

/- tipstaff/canon.Sum -/
def xf101 : XF := ⟨2, [0, 1, 4, 9, 10, 5, 13, 12, 11, 7, 16, 19, 20, 23],
  (.seq
 (.new (some 2) 40 (.const (.agg (Array.replicate 32 (.int .u8 0)))))
 (.seq
 (.seq
 (.call (some 3) 155 [(.var 0)] [])
 (.seq
 (.row (some 4) 27 1 (.upd 0 1 (.const (.agg #[(.slice none 0 0)])) (.var 3)))
 (.set 5 (.var 4))))
 (.seq
 (.seq
 (.seq
 (.set 8 (.var 1))
 (.seq
 (.set 7 (.len false (.var 8)))
 (.set 6 (.const (.int .i64 0)))))
 (.block 0
 (.loop [2, 5, 6, 7, 8]
 (.seq
 (.cond (.bin .lss (.var 6) (.var 7))
 .skip
 (.exit 0))
 (.seq
 (.block 1
 (.seq
 (.seq
 (.set 10 (.ld (some 32) (.ixSl 32 (.var 8) (.var 6))))
 (.seq
 (.new (some 9) 40 (.const (.agg (Array.replicate 32 (.int .u8 0)))))
 (.store 32 (.var 9) (.var 10) [])))
 (.seq
 (.chk [(.var 5)])
 (.seq
 (.row (some 11) 27 1 (.upd 0 1 (.const (.agg #[(.slice none 0 0)])) (.slArr 32 1 (.var 9) (.const (.int .i64 0)) (.const (.int .i64 32)))))
 (.seq
 (.app (some 12) 27 1 (.var 5) (.var 11) [])
 (.set 5 (.var 12)))))))
 (.set 6 (.bin .add (.var 6) (.const (.int .i64 1)))))))))
 (.seq
 (.seq
 (.call (some 13) 154 [(.var 5)] [])
 (.store 32 (.var 2) (.var 13) []))
 .ret)))),
  [(.ld (some 32) (.var 2))]⟩
theorem okx_101 : FnOk Tryz.prog 3 365 101 xf101 := fnOk_of Tryz.func101 (np := 2) (V := [0, 1, 4, 9, 10, 5, 13, 12, 11, 7, 16, 19, 20, 23]) (ks := [[2, 5, 6, 7, 8]]) (by kernel_rfl)

/- tipstaff/token.has -/
def xf102 : XF := ⟨2, [0, 1, 4, 5, 12],
  (.seq
 (.set 2 (.const (.int .i64 0)))
 (.seq
 (.block 0
 (.seq
 (.set 3 (.pick (.bin .lss (.var 1) (.const (.int .i64 0))) (.const (.bool true)) (.bin .geq (.var 1) (.const (.int .i64 16)))))
 (.cond (.var 3)
 (.seq
 (.set 2 (.const (.int .i64 22)))
 .ret)
 (.seq
 (.set 4 (.bin .eql (.bin .and (.bin .shr (.var 0) (.var 1)) (.const (.int .u16 1))) (.const (.int .u16 0))))
 (.cond (.var 4)
 (.seq
 (.set 2 (.const (.int .i64 1)))
 .ret)
 .skip)))))
 (.seq
 (.set 2 (.const (.int .i64 0)))
 .ret))),
  [(.var 2)]⟩
theorem okx_102 : FnOk Tryz.prog 3 365 102 xf102 := fnOk_of Tryz.func102 (np := 2) (V := [0, 1, 4, 5, 12]) (ks := []) (by kernel_rfl)

/- tipstaff/token.of -/
def xf103 : XF := ⟨1, [0, 2],
  (.seq
 (.new (some 1) 33 (.const zA4))
 (.seq
 (.cond (.isnil 0 false (.var 0))
 (.seq
 (.store 6 (.var 1) (.const zA4) [])
 .ret)
 .skip)
 (.seq
 (.store 6 (.var 1) (.ld (some 6) (.offp 1 (.nn (.var 0)))) [])
 .ret))),
  [(.ld (some 6) (.var 1))]⟩
theorem okx_103 : FnOk Tryz.prog 3 365 103 xf103 := fnOk_of Tryz.func103 (np := 1) (V := [0, 2]) (ks := []) (by kernel_rfl)

/- (*tipstaff/space.Tree).find -/
def xf122 : XF := ⟨2, [0, 1, 4, 5, 6, 10],
  (.seq
 (.seq
 (.new (some 2) 227 (.const (.agg #[(.int .i64 0), (.int .i64 0)])))
 (.set 3 (.const (.int .i64 0))))
 (.seq
 (.block 0
 (.seq
 (.set 4 (.isnil 0 false (.var 0)))
 (.cond (.var 4)
 (.seq
 (.seq
 (.store 2 (.var 2) (.const (.agg #[(.int .i64 0), (.int .i64 0)])) [])
 (.set 3 (.const (.int .i64 22))))
 .ret)
 (.seq
 (.set 5 (.pick (.bin .lss (.var 1) (.const (.int .i64 0))) (.const (.bool true)) (.bin .geq (.var 1) (.len false (.ld none (.offp 0 (.nn (.var 0))))))))
 (.cond (.var 5)
 (.seq
 (.seq
 (.store 2 (.var 2) (.const (.agg #[(.int .i64 0), (.int .i64 0)])) [])
 (.set 3 (.const (.int .i64 2))))
 .ret)
 .skip)))))
 (.seq
 (.seq
 (.store 2 (.var 2) (.ld (some 2) (.ixSl 2 (.ld none (.offp 0 (.nn (.var 0)))) (.var 1))) [])
 (.set 3 (.const (.int .i64 0))))
 .ret))),
  [(.ld (some 2) (.var 2)), (.var 3)]⟩
theorem okx_122 : FnOk Tryz.prog 3 365 122 xf122 := fnOk_of Tryz.func122 (np := 2) (V := [0, 1, 4, 5, 6, 10]) (ks := []) (by kernel_rfl)

/- tipstaff/digest.words -/
def xf124 : XF := ⟨1, [0, 2, 3, 13, 12, 11, 4, 5, 6, 7, 8, 43, 45, 9, 51, 53, 10],
  (.seq
 (.new (some 1) 232 (.const (.agg (Array.replicate 64 (.int .u32 0)))))
 (.seq
 (.new (some 2) 232 (.const (.agg (Array.replicate 64 (.int .u32 0)))))
 (.seq
 (.seq
 (.seq
 (.set 5 (.var 0))
 (.seq
 (.set 4 (.len false (.var 5)))
 (.set 3 (.const (.int .i64 0)))))
 (.block 0
 (.loop [1, 2, 3, 4, 5]
 (.seq
 (.cond (.bin .lss (.var 3) (.var 4))
 .skip
 (.exit 0))
 (.seq
 (.block 1
 (.seq
 (.seq
 (.chk [(.ld none (.ixSl 1 (.var 5) (.var 3)))])
 (.seq
 (.set 6 (.var 3))
 (.set 7 (.ld none (.ixSl 1 (.var 5) (.var 3))))))
 (.store 1 (.ixArr 64 1 (.var 2) (.bin .quo (.var 6) (.const (.int .i64 4)))) (.bin .or (.bin .shl (.ld none (.ixArr 64 1 (.var 2) (.bin .quo (.var 6) (.const (.int .i64 4))))) (.const (.int .u64 8))) (.conv .u32 (.var 7))) [])))
 (.set 3 (.bin .add (.var 3) (.const (.int .i64 1)))))))))
 (.seq
 (.seq
 (.set 8 (.const (.int .i64 16)))
 (.block 2
 (.loop [1, 2, 8]
 (.seq
 (.cond (.bin .lss (.var 8) (.const (.int .i64 64)))
 .skip
 (.exit 2))
 (.seq
 (.block 3
 (.seq
 (.seq
 .skip
 (.seq
 (.chk [(.ld none (.ixArr 64 1 (.var 2) (.bin .sub (.var 8) (.const (.int .i64 2)))))])
 (.seq
 (.set 9 (.ld none (.ixArr 64 1 (.var 2) (.bin .sub (.var 8) (.const (.int .i64 15))))))
 (.set 10 (.ld none (.ixArr 64 1 (.var 2) (.bin .sub (.var 8) (.const (.int .i64 2)))))))))
 (.seq
 (.seq
 (.call (some 11) 125 [(.var 9), (.const (.int .i64 7))] [])
 (.seq
 (.call (some 12) 125 [(.var 9), (.const (.int .i64 18))] [])
 (.set 13 (.bin .xor (.bin .xor (.var 11) (.var 12)) (.bin .shr (.var 9) (.const (.int .u64 3)))))))
 (.seq
 (.seq
 (.call (some 14) 125 [(.var 10), (.const (.int .i64 17))] [])
 (.seq
 (.call (some 15) 125 [(.var 10), (.const (.int .i64 19))] [])
 (.set 16 (.bin .xor (.bin .xor (.var 14) (.var 15)) (.bin .shr (.var 10) (.const (.int .u64 10)))))))
 (.seq
 .skip
 (.store 1 (.ixArr 64 1 (.var 2) (.var 8)) (.bin .add (.bin .add (.bin .add (.var 16) (.ld none (.ixArr 64 1 (.var 2) (.bin .sub (.var 8) (.const (.int .i64 7)))))) (.var 13)) (.ld none (.ixArr 64 1 (.var 2) (.bin .sub (.var 8) (.const (.int .i64 16)))))) []))))))
 (.set 8 (.bin .add (.var 8) (.const (.int .i64 1)))))))))
 (.seq
 (.store 64 (.var 1) (.ld (some 64) (.var 2)) [])
 .ret))))),
  [(.ld (some 64) (.var 1))]⟩
theorem okx_124 : FnOk Tryz.prog 3 365 124 xf124 := fnOk_of Tryz.func124 (np := 1) (V := [0, 2, 3, 13, 12, 11, 4, 5, 6, 7, 8, 43, 45, 9, 51, 53, 10]) (ks := [[1, 2, 3, 4, 5], [1, 2, 8]]) (by kernel_rfl)

/- tipstaff/digest.right -/
def xf125 : XF := ⟨2, [0, 1, 4, 8],
  (.seq
 (.set 2 (.const (.int .u32 0)))
 (.seq
 (.seq
 (.call (some 3) 171 [(.var 0), (.un .neg (.var 1))] [])
 (.set 2 (.var 3)))
 .ret)),
  [(.var 2)]⟩
theorem okx_125 : FnOk Tryz.prog 3 365 125 xf125 := fnOk_of Tryz.func125 (np := 2) (V := [0, 1, 4, 8]) (ks := []) (by kernel_rfl)

/- slices.Index[[]*tipstaff/bmap.Map,*tipstaff/bmap.Map] -/
def xf129 : XF := ⟨2, [0, 1, 4, 8, 7, 5],
  (.seq
 (.set 2 (.const (.int .i64 0)))
 (.seq
 (.seq
 (.seq
 (.set 4 (.len false (.var 0)))
 (.set 3 (.const (.int .i64 0))))
 (.block 0
 (.loop [0, 1, 3, 4]
 (.seq
 (.cond (.bin .lss (.var 3) (.var 4))
 .skip
 (.exit 0))
 (.seq
 (.block 1
 (.seq
 (.set 5 (.var 3))
 (.cond (.eqx false .ptr (.var 1) (.ld none (.ixSl 1 (.var 0) (.var 5))))
 (.seq
 (.set 2 (.var 5))
 .ret)
 .skip)))
 (.set 3 (.bin .add (.var 3) (.const (.int .i64 1)))))))))
 (.seq
 (.set 2 (.const (.int .i64 (-1))))
 .ret))),
  [(.var 2)]⟩
theorem okx_129 : FnOk Tryz.prog 3 365 129 xf129 := fnOk_of Tryz.func129 (np := 2) (V := [0, 1, 4, 8, 7, 5]) (ks := [[0, 1, 3, 4]]) (by kernel_rfl)

/- tipstaff/verify.Helpers -/
def xf130 : XF := ⟨1, [0, 2, 3, 8, 7, 6, 5, 11, 14, 20, 21, 26],
  (.seq
 (.set 1 (.const (.slice none 0 0)))
 (.seq
 (.set 2 (.const (.slice none 0 0)))
 (.seq
 (.seq
 (.seq
 (.set 5 (.var 0))
 (.seq
 (.set 4 (.len false (.var 5)))
 (.set 3 (.const (.int .i64 0)))))
 (.block 0
 (.loop [2, 3, 4, 5]
 (.seq
 (.cond (.bin .lss (.var 3) (.var 4))
 .skip
 (.exit 0))
 (.seq
 (.block 1
 (.seq
 (.seq
 (.set 7 (.ld (some 5) (.ixSl 5 (.var 5) (.var 3))))
 (.seq
 (.new (some 6) 46 (.const zA2))
 (.store 5 (.var 6) (.var 7) [])))
 (.seq
 (.call (some 8) 160 [(.ld none (.offp 0 (.var 6)))] [])
 (.cond (.bin .eql (.part none 0 (.var 8)) (.const (.int .i64 4)))
 (.seq
 (.chk [(.var 2)])
 (.seq
 (.row (some 9) 21 1 (.upd 0 1 (.const (.agg #[(.int .i32 0)])) (.ld none (.offp 4 (.var 6)))))
 (.seq
 (.app (some 10) 21 1 (.var 2) (.var 9) [])
 (.set 2 (.var 10)))))
 .skip))))
 (.set 3 (.bin .add (.var 3) (.const (.int .i64 1)))))))))
 (.seq
 (.call none 175 [(.var 2)] [])
 (.seq
 (.seq
 (.call (some 11) 176 [(.var 2)] [])
 (.set 1 (.var 11)))
 .ret))))),
  [(.var 1)]⟩
theorem okx_130 : FnOk Tryz.prog 3 365 130 xf130 := fnOk_of Tryz.func130 (np := 1) (V := [0, 2, 3, 8, 7, 6, 5, 11, 14, 20, 21, 26]) (ks := [[2, 3, 4, 5]]) (by kernel_rfl)

/- tipstaff/rights.Common -/
def xf133 : XF := ⟨2, [0, 1, 4, 2, 3],
  (.seq
 (.seq
 (.new (some 3) 33 (.var 0))
 (.seq
 (.new (some 4) 33 (.var 1))
 (.new (some 2) 33 (.const zA4))))
 (.seq
 (.seq
 (.chk [(.upd 5 1 (.upd 4 1 (.upd 3 1 (.upd 2 1 (.upd 1 1 (.upd 0 1 (.const zA4) (.bin .and (.ld none (.offp 0 (.var 3))) (.ld none (.offp 0 (.var 4))))) (.bin .and (.ld none (.offp 1 (.var 3))) (.ld none (.offp 1 (.var 4))))) (.bin .and (.ld none (.offp 2 (.var 3))) (.ld none (.offp 2 (.var 4))))) (.bin .and (.ld none (.offp 3 (.var 3))) (.ld none (.offp 3 (.var 4))))) (.pick (.ld none (.offp 4 (.var 3))) (.ld none (.offp 4 (.var 4))) (.const (.bool false)))) (.pick (.ld none (.offp 5 (.var 3))) (.const (.bool true)) (.ld none (.offp 5 (.var 4)))))])
 (.store 6 (.var 2) (.upd 5 1 (.upd 4 1 (.upd 3 1 (.upd 2 1 (.upd 1 1 (.upd 0 1 (.const zA4) (.bin .and (.ld none (.offp 0 (.var 3))) (.ld none (.offp 0 (.var 4))))) (.bin .and (.ld none (.offp 1 (.var 3))) (.ld none (.offp 1 (.var 4))))) (.bin .and (.ld none (.offp 2 (.var 3))) (.ld none (.offp 2 (.var 4))))) (.bin .and (.ld none (.offp 3 (.var 3))) (.ld none (.offp 3 (.var 4))))) (.pick (.ld none (.offp 4 (.var 3))) (.ld none (.offp 4 (.var 4))) (.const (.bool false)))) (.pick (.ld none (.offp 5 (.var 3))) (.const (.bool true)) (.ld none (.offp 5 (.var 4))))) []))
 .ret)),
  [(.ld (some 6) (.var 2))]⟩
theorem okx_133 : FnOk Tryz.prog 3 365 133 xf133 := fnOk_of Tryz.func133 (np := 2) (V := [0, 1, 4, 2, 3]) (ks := []) (by kernel_rfl)

/- tipstaff/cfg.Check -/
def xf135 : XF := ⟨2, [0, 1, 4, 5, 11, 6, 7, 19, 20, 8, 28],
  (.seq
 (.seq
 (.set 2 (.const (.int .i64 0)))
 (.set 3 (.const (.int .i64 0))))
 (.seq
 (.seq
 (.seq
 (.call (some 4) 179 [(.var 0)] [])
 (.seq
 (.chk [(.proj 1 (.var 4))])
 (.seq
 (.set 5 (.proj 0 (.var 4)))
 (.set 6 (.proj 1 (.var 4))))))
 (.cond (.bin .neq (.var 6) (.const (.int .i64 0)))
 (.seq
 (.seq
 (.chk [(.var 6)])
 (.seq
 (.set 2 (.var 5))
 (.set 3 (.var 6))))
 .ret)
 .skip))
 (.seq
 (.seq
 (.seq
 (.call (some 7) 181 [(.var 0)] [])
 (.seq
 (.call (some 8) 180 [(.var 7), (.const (.bool false))] [])
 (.set 9 (.var 8))))
 (.cond (.bin .geq (.var 9) (.const (.int .i64 0)))
 (.seq
 (.seq
 (.set 2 (.var 9))
 (.set 3 (.const (.int .i64 22))))
 .ret)
 .skip))
 (.seq
 (.seq
 (.seq
 (.chk [(.pick (.un .not (.var 1)) (.var 0) (.const (.bool false)))])
 (.cond (.pick (.un .not (.var 1)) (.const (.bool true)) (.const (.bool false)))
 (.call (some 10) 182 [(.var 0)] [])
 (.clr [10])))
 (.cond (.pick (.un .not (.var 1)) (.var 10) (.const (.bool false)))
 (.seq
 (.seq
 (.set 2 (.const (.int .i64 0)))
 (.set 3 (.const (.int .i64 22))))
 .ret)
 .skip))
 (.seq
 (.seq
 (.set 2 (.const (.int .i64 0)))
 (.set 3 (.const (.int .i64 0))))
 .ret))))),
  [(.var 2), (.var 3)]⟩
theorem okx_135 : FnOk Tryz.prog 3 365 135 xf135 := fnOk_of Tryz.func135 (np := 2) (V := [0, 1, 4, 5, 11, 6, 7, 19, 20, 8, 28]) (ks := []) (by kernel_rfl)

/- slices.ContainsFunc[[]tipstaff/bmap.Spec,tipstaff/bmap.Spec] -/
def xf136 : XF := ⟨2, [0, 1, 4, 7],
  (.seq
 (.set 2 (.const (.bool false)))
 (.seq
 (.seq
 (.call (some 3) 183 [(.var 0), (.var 1)] [])
 (.set 2 (.bin .geq (.var 3) (.const (.int .i64 0)))))
 .ret)),
  [(.var 2)]⟩
theorem okx_136 : FnOk Tryz.prog 3 365 136 xf136 := fnOk_of Tryz.func136 (np := 2) (V := [0, 1, 4, 7]) (ks := []) (by kernel_rfl)

/- tipstaff/absreg.Start -/
def xf138 : XF := ⟨0, [0, 1],
  (.seq
 (.new (some 0) 262 (.const zA17))
 (.seq
 (.new (some 1) 262 (.const zA17))
 (.seq
 (.seq
 (.chk [(.upd 0 1 (.const zA9) (.const (.int .i64 2)))])
 (.store 11 (.ixArr 11 11 (.offp 0 (.var 1)) (.const (.int .i64 1))) (.upd 0 1 (.const zA9) (.const (.int .i64 2))) []))
 (.seq
 (.seq
 (.chk [(.upd 0 1 (.const zA9) (.const (.int .i64 3)))])
 (.store 11 (.ixArr 11 11 (.offp 0 (.var 1)) (.const (.int .i64 10))) (.upd 0 1 (.const zA9) (.const (.int .i64 3))) []))
 (.seq
 (.store 273 (.var 0) (.ld (some 273) (.var 1)) [])
 .ret))))),
  [(.ld (some 273) (.var 0))]⟩
theorem okx_138 : FnOk Tryz.prog 3 365 138 xf138 := fnOk_of Tryz.func138 (np := 0) (V := [0, 1]) (ks := []) (by kernel_rfl)

/- (*tipstaff/verify.checker).run -/
def xf139 : XF := ⟨2, [0, 1, 4, 5, 6, 7, 8, 29, 41, 61, 63, 64, 65, 52, 54, 58, 60, 71, 9, 10, 86],
  (.seq
 (.seq
 (.new (some 2) 175 (.const (.agg #[(.int .i64 0), (.int .i64 0)])))
 (.set 3 (.const (.int .i64 0))))
 (.seq
 (.set 4 (.const (.int .i64 0)))
 (.seq
 (.block 0
 (.loop [0, 1, 2, 4]
 (.seq
 (.cond (.bin .gtr (.len false (.ld none (.offp 4 (.nn (.var 0))))) (.const (.int .i64 0)))
 .skip
 (.exit 0))
 (.block 1
 (.seq
 (.set 5 (.bin .sub (.len false (.ld none (.offp 4 (.nn (.var 0))))) (.const (.int .i64 1))))
 (.seq
 (.seq
 (.set 7 (.ld (some 274) (.ixSl 274 (.ld none (.offp 4 (.nn (.var 0)))) (.var 5))))
 (.seq
 (.new (some 6) 265 (.const zA18))
 (.store 274 (.var 6) (.var 7) [])))
 (.seq
 (.store 1 (.offp 4 (.nn (.var 0))) (.slSl 274 (.ld none (.offp 4 (.nn (.var 0)))) (.const (.int .i64 0)) (.var 5)) [])
 (.seq
 (.seq
 (.call (some 8) 184 [(.var 0), (.ld (some 274) (.var 6))] [])
 (.cond (.var 8)
 (.exit 1)
 .skip))
 (.seq
 (.cond (.bin .eql (.var 4) (.var 1))
 (.seq
 (.seq
 (.chk [(.upd 1 1 (.upd 0 1 (.const (.agg #[(.int .i64 0), (.int .i64 0)])) (.ld none (.offp 0 (.var 6)))) (.var 4))])
 (.seq
 (.store 2 (.var 2) (.upd 1 1 (.upd 0 1 (.const (.agg #[(.int .i64 0), (.int .i64 0)])) (.ld none (.offp 0 (.var 6)))) (.var 4)) [])
 (.set 3 (.const (.int .i64 7)))))
 .ret)
 .skip)
 (.seq
 (.seq
 .skip
 (.seq
 (.set 13 (.ld none (.offp 5 (.nn (.var 0)))))
 (.seq
 (.set 14 (.ld none (.offp 0 (.var 6))))
 (.seq
 (.set 15 (.ld none (.offp 5 (.nn (.var 0)))))
 (.seq
 (.set 16 (.ld none (.offp 0 (.var 6))))
 (.seq
 (.set 10 (.ld (some 273) (.offp 1 (.var 6))))
 (.seq
 (.resv 1)
 (.seq
 (.seq
 (.set 11 (.const (.bool true)))
 .skip)
 (.seq
 (.chk [(.var 11)])
 (.seq
 (.clr [11])
 (.seq
 (.chk [(.upd 0 273 (.const zA17) (.var 10))])
 (.seq
 (.look (some 9) (.slice none 0 0) false .i64 (.var 15) (.var 16) [(.ld (some 273) (.offp 1 (.var 6))), (.ld none (.offp 0 (.var 6))), (.ld none (.offp 5 (.nn (.var 0)))), (.ld none (.offp 0 (.var 6))), (.ld none (.offp 5 (.nn (.var 0))))])
 (.seq
 (.rowR 0 11 262 1 (.upd 0 273 (.const zA17) (.var 10)))
 (.seq
 (.app (some 12) 262 273 (.var 9) (.var 11) [(.ld none (.offp 0 (.var 6))), (.ld none (.offp 5 (.nn (.var 0))))])
 (.seq
 (.upd .i64 (.var 13) (.var 14) (.var 12) [])
 .skip)))))))))))))))
 (.seq
 (.set 4 (.bin .add (.var 4) (.const (.int .i64 1))))
 (.seq
 (.seq
 (.call (some 17) 185 [(.var 0), (.ld (some 274) (.var 6))] [])
 (.seq
 (.chk [(.proj 1 (.var 17))])
 (.seq
 (.set 18 (.proj 0 (.var 17)))
 (.set 19 (.proj 1 (.var 17))))))
 (.seq
 (.cond (.un .not (.var 19))
 (.seq
 (.seq
 (.chk [(.upd 1 1 (.upd 0 1 (.const (.agg #[(.int .i64 0), (.int .i64 0)])) (.ld none (.offp 0 (.var 6)))) (.var 4))])
 (.seq
 (.store 2 (.var 2) (.upd 1 1 (.upd 0 1 (.const (.agg #[(.int .i64 0), (.int .i64 0)])) (.ld none (.offp 0 (.var 6)))) (.var 4)) [])
 (.set 3 (.const (.int .i64 13)))))
 .ret)
 .skip)
 (.seq
 (.app (some 20) 265 274 (.ld none (.offp 4 (.nn (.var 0)))) (.var 18) [])
 (.store 1 (.offp 4 (.nn (.var 0))) (.var 20) [])))))))))))))))
 (.seq
 (.seq
 (.chk [(.upd 1 1 (.upd 0 1 (.const (.agg #[(.int .i64 0), (.int .i64 0)])) (.const (.int .i64 0))) (.var 4))])
 (.seq
 (.store 2 (.var 2) (.upd 1 1 (.upd 0 1 (.const (.agg #[(.int .i64 0), (.int .i64 0)])) (.const (.int .i64 0))) (.var 4)) [])
 (.set 3 (.const (.int .i64 0)))))
 .ret)))),
  [(.ld (some 2) (.var 2)), (.var 3)]⟩
theorem okx_139 : FnOk Tryz.prog 3 365 139 xf139 := fnOk_of Tryz.func139 (np := 2) (V := [0, 1, 4, 5, 6, 7, 8, 29, 41, 61, 63, 64, 65, 52, 54, 58, 60, 71, 9, 10, 86]) (ks := [[0, 1, 2, 4]]) (by kernel_rfl)

/- slices.Clone[[]tipstaff/api.Insn,tipstaff/api.Insn] -/
def xf147 : XF := ⟨1, [0, 2, 5, 7],
  (.seq
 (.set 1 (.const (.slice none 0 0)))
 (.seq
 (.cond (.isnil 1 false (.var 0))
 (.seq
 (.set 1 (.const (.slice none 0 0)))
 .ret)
 .skip)
 (.seq
 (.seq
 (.row (some 2) 46 0 (.const (.agg #[])))
 (.seq
 (.app (some 3) 46 5 (.var 2) (.var 0) [])
 (.set 1 (.var 3))))
 .ret))),
  [(.var 1)]⟩
theorem okx_147 : FnOk Tryz.prog 3 365 147 xf147 := fnOk_of Tryz.func147 (np := 1) (V := [0, 2, 5, 7]) (ks := []) (by kernel_rfl)

/- tipstaff/canon.ofMap -/
def xf148 : XF := ⟨1, [0, 2, 1, 5],
  (.seq
 (.seq
 (.new (some 2) 46 (.var 0))
 (.set 1 (.const (.bool false))))
 (.seq
 (.seq
 (.call (some 3) 160 [(.ld none (.offp 0 (.var 2)))] [])
 (.set 1 (.pick (.bin .eql (.part none 0 (.var 3)) (.const (.int .i64 9))) (.bin .eql (.ld none (.offp 2 (.var 2))) (.const (.int .u8 1))) (.const (.bool false)))))
 .ret)),
  [(.var 1)]⟩
theorem okx_148 : FnOk Tryz.prog 3 365 148 xf148 := fnOk_of Tryz.func148 (np := 1) (V := [0, 2, 1, 5]) (ks := []) (by kernel_rfl)

/- slices.Index[[]int32,int32] -/
def xf149 : XF := ⟨2, [0, 1, 4, 8, 7, 5],
  (.seq
 (.set 2 (.const (.int .i64 0)))
 (.seq
 (.seq
 (.seq
 (.set 4 (.len false (.var 0)))
 (.set 3 (.const (.int .i64 0))))
 (.block 0
 (.loop [0, 1, 3, 4]
 (.seq
 (.cond (.bin .lss (.var 3) (.var 4))
 .skip
 (.exit 0))
 (.seq
 (.block 1
 (.seq
 (.set 5 (.var 3))
 (.cond (.bin .eql (.var 1) (.ld none (.ixSl 1 (.var 0) (.var 5))))
 (.seq
 (.set 2 (.var 5))
 .ret)
 .skip)))
 (.set 3 (.bin .add (.var 3) (.const (.int .i64 1)))))))))
 (.seq
 (.set 2 (.const (.int .i64 (-1))))
 .ret))),
  [(.var 2)]⟩
theorem okx_149 : FnOk Tryz.prog 3 365 149 xf149 := fnOk_of Tryz.func149 (np := 2) (V := [0, 1, 4, 8, 7, 5]) (ks := [[0, 1, 3, 4]]) (by kernel_rfl)

/- slices.Clone[[]*tipstaff/bmap.entry,*tipstaff/bmap.entry] -/
def xf150 : XF := ⟨1, [0, 2, 5, 7],
  (.seq
 (.set 1 (.const (.slice none 0 0)))
 (.seq
 (.cond (.isnil 1 false (.var 0))
 (.seq
 (.set 1 (.const (.slice none 0 0)))
 .ret)
 .skip)
 (.seq
 (.seq
 (.row (some 2) 101 0 (.const (.agg #[])))
 (.seq
 (.app (some 3) 101 1 (.var 2) (.var 0) [])
 (.set 1 (.var 3))))
 .ret))),
  [(.var 1)]⟩
theorem okx_150 : FnOk Tryz.prog 3 365 150 xf150 := fnOk_of Tryz.func150 (np := 1) (V := [0, 2, 5, 7]) (ks := []) (by kernel_rfl)

/- slices.SortStableFunc[[]*tipstaff/bmap.entry,*tipstaff/bmap.entry] -/
def xf151 : XF := ⟨2, [0, 1],
  (.call none 188 [(.var 0), (.len false (.var 0)), (.var 1)] []),
  []⟩
theorem okx_151 : FnOk Tryz.prog 3 365 151 xf151 := fnOk_of Tryz.func151 (np := 2) (V := [0, 1]) (ks := []) (by kernel_rfl)

/- (*tipstaff/bmap.Map).Sum$1 -/
def xf152 : XF := ⟨2, [0, 1, 4, 13],
  (.seq
 (.set 2 (.const (.int .i64 0)))
 (.seq
 (.seq
 .skip
 (.seq
 (.call (some 3) 153 [(.ld none (.offp 0 (.nn (.var 0)))), (.ld none (.offp 0 (.nn (.var 1))))] [])
 (.set 2 (.var 3))))
 .ret)),
  [(.var 2)]⟩
theorem okx_152 : FnOk Tryz.prog 3 365 152 xf152 := fnOk_of Tryz.func152 (np := 2) (V := [0, 1, 4, 13]) (ks := []) (by kernel_rfl)

/- cmp.Compare[string] -/
def xf153 : XF := ⟨2, [0, 1, 4, 8, 5, 10, 6],
  (.seq
 (.set 2 (.const (.int .i64 0)))
 (.seq
 (.seq
 (.call (some 3) 189 [(.var 0)] [])
 (.set 4 (.var 3)))
 (.seq
 (.seq
 (.call (some 5) 189 [(.var 1)] [])
 (.set 6 (.var 5)))
 (.seq
 (.cond (.var 4)
 (.seq
 (.cond (.var 6)
 (.seq
 (.set 2 (.const (.int .i64 0)))
 .ret)
 .skip)
 (.seq
 (.set 2 (.const (.int .i64 (-1))))
 .ret))
 .skip)
 (.seq
 (.cond (.var 6)
 (.seq
 (.set 2 (.const (.int .i64 1)))
 .ret)
 .skip)
 (.seq
 (.cond (.bin .lss (.var 0) (.var 1))
 (.seq
 (.set 2 (.const (.int .i64 (-1))))
 .ret)
 .skip)
 (.seq
 (.cond (.bin .gtr (.var 0) (.var 1))
 (.seq
 (.set 2 (.const (.int .i64 1)))
 .ret)
 .skip)
 (.seq
 (.set 2 (.const (.int .i64 0)))
 .ret)))))))),
  [(.var 2)]⟩
theorem okx_153 : FnOk Tryz.prog 3 365 153 xf153 := fnOk_of Tryz.func153 (np := 2) (V := [0, 1, 4, 8, 5, 10, 6]) (ks := []) (by kernel_rfl)

/- tipstaff/digest.Joined -/
def xf154 : XF := ⟨1, [0, 2, 3, 8, 7, 6, 5, 16, 17, 20, 23],
  (.seq
 (.new (some 1) 40 (.const (.agg (Array.replicate 32 (.int .u8 0)))))
 (.seq
 (.set 2 (.const (.slice none 0 0)))
 (.seq
 (.seq
 (.seq
 (.set 5 (.var 0))
 (.seq
 (.set 4 (.len false (.var 5)))
 (.set 3 (.const (.int .i64 0)))))
 (.block 0
 (.loop [1, 2, 3, 4, 5]
 (.seq
 (.cond (.bin .lss (.var 3) (.var 4))
 .skip
 (.exit 0))
 (.seq
 (.block 1
 (.seq
 (.set 6 (.ld none (.ixSl 1 (.var 5) (.var 3))))
 (.seq
 (.seq
 (.chk [(.var 2)])
 (.seq
 (.call (some 7) 72 [(.conv .u64 (.len false (.var 6)))] [])
 (.seq
 (.app (some 8) 5 1 (.var 2) (.var 7) [])
 (.set 2 (.var 8)))))
 (.seq
 (.app (some 9) 5 1 (.var 2) (.var 6) [])
 (.set 2 (.var 9))))))
 (.set 3 (.bin .add (.var 3) (.const (.int .i64 1)))))))))
 (.seq
 (.seq
 (.call (some 10) 32 [(.var 2)] [])
 (.store 32 (.var 1) (.var 10) []))
 .ret)))),
  [(.ld (some 32) (.var 1))]⟩
theorem okx_154 : FnOk Tryz.prog 3 365 154 xf154 := fnOk_of Tryz.func154 (np := 1) (V := [0, 2, 3, 8, 7, 6, 5, 16, 17, 20, 23]) (ks := [[1, 2, 3, 4, 5]]) (by kernel_rfl)

/- tipstaff/insn.Encode -/
def xf155 : XF := ⟨1, [0, 2, 3, 9, 8, 7, 5, 12, 30, 31, 32, 6, 42, 43],
  (.seq
 (.set 1 (.const (.slice none 0 0)))
 (.seq
 (.set 2 (.const (.slice none 0 0)))
 (.seq
 (.seq
 (.seq
 (.set 5 (.var 0))
 (.seq
 (.set 4 (.len false (.var 5)))
 (.set 3 (.const (.int .i64 0)))))
 (.block 0
 (.loop [2, 3, 4, 5]
 (.seq
 (.cond (.bin .lss (.var 3) (.var 4))
 .skip
 (.exit 0))
 (.seq
 (.block 1
 (.seq
 (.seq
 (.set 7 (.ld (some 5) (.ixSl 5 (.var 5) (.var 3))))
 (.seq
 (.new (some 6) 46 (.const zA2))
 (.store 5 (.var 6) (.var 7) [])))
 (.seq
 (.seq
 (.chk [(.var 2)])
 (.seq
 (.row (some 8) 5 4 (.upd 3 1 (.upd 2 1 (.upd 1 1 (.upd 0 1 (.const (.agg (Array.replicate 4 (.int .u8 0)))) (.ld none (.offp 0 (.var 6)))) (.bin .or (.bin .and (.ld none (.offp 1 (.var 6))) (.const (.int .u8 15))) (.bin .shl (.ld none (.offp 2 (.var 6))) (.const (.int .u64 4))))) (.conv .u8 (.ld none (.offp 3 (.var 6))))) (.conv .u8 (.bin .shr (.ld none (.offp 3 (.var 6))) (.const (.int .u64 8))))))
 (.seq
 (.app (some 9) 5 1 (.var 2) (.var 8) [])
 (.set 2 (.var 9)))))
 (.seq
 (.set 10 (.const (.int .i64 0)))
 (.block 2
 (.loop [2, 3, 4, 5, 6, 10]
 (.seq
 (.cond (.bin .lss (.var 10) (.const (.int .i64 4)))
 .skip
 (.exit 2))
 (.seq
 (.block 3
 (.seq
 (.set 11 (.var 10))
 (.seq
 (.chk [(.var 2)])
 (.seq
 (.row (some 12) 5 1 (.upd 0 1 (.const (.agg #[(.int .u8 0)])) (.conv .u8 (.bin .shr (.ld none (.offp 4 (.var 6))) (.bin .mul (.const (.int .i64 8)) (.var 11))))))
 (.seq
 (.app (some 13) 5 1 (.var 2) (.var 12) [])
 (.set 2 (.var 13)))))))
 (.set 10 (.bin .add (.var 10) (.const (.int .i64 1))))))))))))
 (.set 3 (.bin .add (.var 3) (.const (.int .i64 1)))))))))
 (.seq
 (.set 1 (.var 2))
 .ret)))),
  [(.var 1)]⟩
theorem okx_155 : FnOk Tryz.prog 3 365 155 xf155 := fnOk_of Tryz.func155 (np := 1) (V := [0, 2, 3, 9, 8, 7, 5, 12, 30, 31, 32, 6, 42, 43]) (ks := [[2, 3, 4, 5], [2, 3, 4, 5, 6, 10]]) (by kernel_rfl)

/- tipstaff/insn.Of -/
def xf160 : XF := ⟨1, [0, 2, 4, 5, 9, 10, 14, 15, 20, 21, 22, 25],
  (.seq
 (.new (some 1) 287 (.const zA3))
 (.seq
 (.seq
 (.set 2 (.bin .and (.var 0) (.const (.int .u8 7))))
 (.block 0
 (.seq
 (.seq
 (.set 3 (.bin .eql (.var 2) (.const (.int .u8 4))))
 (.cond (.var 3)
 .skip
 (.set 3 (.bin .eql (.var 2) (.const (.int .u8 7))))))
 (.cond (.var 3)
 (.seq
 (.seq
 (.call (some 4) 192 [(.var 0)] [])
 (.store 5 (.var 1) (.var 4) []))
 .ret)
 (.seq
 (.seq
 (.set 5 (.bin .eql (.var 2) (.const (.int .u8 5))))
 (.cond (.var 5)
 .skip
 (.set 5 (.bin .eql (.var 2) (.const (.int .u8 6))))))
 (.cond (.var 5)
 (.seq
 (.seq
 (.call (some 6) 193 [(.var 0)] [])
 (.store 5 (.var 1) (.var 6) []))
 .ret)
 (.seq
 (.seq
 (.set 7 (.bin .eql (.var 2) (.const (.int .u8 1))))
 (.cond (.var 7)
 .skip
 (.seq
 (.set 7 (.bin .eql (.var 2) (.const (.int .u8 2))))
 (.cond (.var 7)
 .skip
 (.set 7 (.bin .eql (.var 2) (.const (.int .u8 3))))))))
 (.cond (.var 7)
 (.seq
 (.seq
 (.call (some 8) 194 [(.var 0)] [])
 (.store 5 (.var 1) (.var 8) []))
 .ret)
 .skip))))))))
 (.seq
 (.seq
 (.set 9 (.var 0))
 (.block 1
 (.seq
 (.set 10 (.bin .eql (.var 9) (.const (.int .u8 24))))
 (.cond (.var 10)
 (.seq
 (.seq
 (.chk [(.upd 2 1 (.upd 0 1 (.const zA3) (.const (.int .i64 9))) (.const (.int .i64 8)))])
 (.store 5 (.var 1) (.upd 2 1 (.upd 0 1 (.const zA3) (.const (.int .i64 9))) (.const (.int .i64 8))) []))
 .ret)
 (.seq
 (.set 11 (.bin .eql (.var 9) (.const (.int .u8 0))))
 (.cond (.var 11)
 (.seq
 (.seq
 (.chk [(.upd 0 1 (.const zA3) (.const (.int .i64 10)))])
 (.store 5 (.var 1) (.upd 0 1 (.const zA3) (.const (.int .i64 10))) []))
 .ret)
 .skip))))))
 (.seq
 (.store 5 (.var 1) (.const zA3) [])
 .ret)))),
  [(.ld (some 5) (.var 1))]⟩
theorem okx_160 : FnOk Tryz.prog 3 365 160 xf160 := fnOk_of Tryz.func160 (np := 1) (V := [0, 2, 4, 5, 9, 10, 14, 15, 20, 21, 22, 25]) (ks := []) (by kernel_rfl)

/- math/bits.RotateLeft32 -/
def xf171 : XF := ⟨2, [0, 1, 4, 5],
  (.seq
 (.set 2 (.const (.int .u32 0)))
 (.seq
 (.set 3 (.bin .and (.conv .u64 (.var 1)) (.const (.int .u64 31))))
 (.seq
 (.set 2 (.bin .or (.bin .shl (.var 0) (.var 3)) (.bin .shr (.var 0) (.bin .sub (.const (.int .u64 32)) (.var 3)))))
 .ret))),
  [(.var 2)]⟩
theorem okx_171 : FnOk Tryz.prog 3 365 171 xf171 := fnOk_of Tryz.func171 (np := 2) (V := [0, 1, 4, 5]) (ks := []) (by kernel_rfl)

/- math/bits.Len -/
def xf174 : XF := ⟨1, [0, 2, 5, 7],
  (.seq
 (.set 1 (.const (.int .i64 0)))
 (.seq
 (.cond (.const (.bool false))
 (.seq
 (.seq
 (.call (some 2) 215 [(.conv .u32 (.var 0))] [])
 (.set 1 (.var 2)))
 .ret)
 .skip)
 (.seq
 (.seq
 (.call (some 3) 216 [(.var 0)] [])
 (.set 1 (.var 3)))
 .ret))),
  [(.var 1)]⟩
theorem okx_174 : FnOk Tryz.prog 3 365 174 xf174 := fnOk_of Tryz.func174 (np := 1) (V := [0, 2, 5, 7]) (ks := []) (by kernel_rfl)

/- slices.Sort[[]int32,int32] -/
def xf175 : XF := ⟨1, [0, 2, 9],
  (.seq
 (.set 1 (.len false (.var 0)))
 (.seq
 (.chk [(.var 0)])
 (.seq
 (.call (some 2) 174 [(.conv .u64 (.var 1))] [])
 (.call none 217 [(.var 0), (.const (.int .i64 0)), (.var 1), (.var 2)] [])))),
  []⟩
theorem okx_175 : FnOk Tryz.prog 3 365 175 xf175 := fnOk_of Tryz.func175 (np := 1) (V := [0, 2, 9]) (ks := []) (by kernel_rfl)

/- slices.Compact[[]int32,int32] -/
def xf176 : XF := ⟨1, [0, 2, 3, 4, 5],
  (.seq
 (.set 1 (.const (.slice none 0 0)))
 (.seq
 (.cond (.bin .lss (.len false (.var 0)) (.const (.int .i64 2)))
 (.seq
 (.set 1 (.var 0))
 .ret)
 .skip)
 (.seq
 (.seq
 (.set 2 (.const (.int .i64 1)))
 (.block 0
 (.loop [0, 2]
 (.seq
 (.cond (.bin .lss (.var 2) (.len false (.var 0)))
 .skip
 (.exit 0))
 (.seq
 (.block 1
 (.seq
 .skip
 (.cond (.bin .eql (.ld none (.ixSl 1 (.var 0) (.var 2))) (.ld none (.ixSl 1 (.var 0) (.bin .sub (.var 2) (.const (.int .i64 1))))))
 (.seq
 (.set 3 (.slSl 1 (.var 0) (.var 2) (.len false (.var 0))))
 (.seq
 (.seq
 (.set 4 (.const (.int .i64 1)))
 (.block 2
 (.loop [0, 2, 3, 4]
 (.seq
 (.cond (.bin .lss (.var 4) (.len false (.var 3)))
 .skip
 (.exit 2))
 (.seq
 (.block 3
 (.seq
 .skip
 (.cond (.bin .neq (.ld none (.ixSl 1 (.var 3) (.var 4))) (.ld none (.ixSl 1 (.var 3) (.bin .sub (.var 4) (.const (.int .i64 1))))))
 (.seq
 (.store 1 (.ixSl 1 (.var 0) (.var 2)) (.ld none (.ixSl 1 (.var 3) (.var 4))) [])
 (.set 2 (.bin .add (.var 2) (.const (.int .i64 1)))))
 .skip)))
 (.set 4 (.bin .add (.var 4) (.const (.int .i64 1)))))))))
 (.seq
 (.clear [(.int .i32 0)] (.slSl 1 (.var 0) (.var 2) (.len false (.var 0))) [])
 (.seq
 (.set 1 (.slSl 1 (.var 0) (.const (.int .i64 0)) (.var 2)))
 .ret))))
 .skip)))
 (.set 2 (.bin .add (.var 2) (.const (.int .i64 1)))))))))
 (.seq
 (.set 1 (.var 0))
 .ret)))),
  [(.var 1)]⟩
theorem okx_176 : FnOk Tryz.prog 3 365 176 xf176 := fnOk_of Tryz.func176 (np := 1) (V := [0, 2, 3, 4, 5]) (ks := [[0, 2], [0, 2, 3, 4]]) (by kernel_rfl)

/- tipstaff/shape.Check -/
def xf179 : XF := ⟨1, [0, 2, 3, 8, 12, 18, 17, 4, 23, 29, 28, 5, 34, 6, 45, 7],
  (.seq
 (.seq
 (.set 1 (.const (.int .i64 0)))
 (.set 2 (.const (.int .i64 0))))
 (.seq
 (.block 0
 (.seq
 (.set 3 (.bin .gtr (.len false (.var 0)) (.const (.int .i64 256))))
 (.cond (.var 3)
 (.seq
 (.seq
 (.set 1 (.const (.int .i64 0)))
 (.set 2 (.const (.int .i64 7))))
 .ret)
 (.seq
 (.set 4 (.bin .eql (.len false (.var 0)) (.const (.int .i64 0))))
 (.cond (.var 4)
 (.seq
 (.seq
 (.set 1 (.const (.int .i64 0)))
 (.set 2 (.const (.int .i64 22))))
 .ret)
 .skip)))))
 (.seq
 (.seq
 (.seq
 (.set 6 (.len false (.var 0)))
 (.set 5 (.const (.int .i64 0))))
 (.block 1
 (.loop [0, 5, 6]
 (.seq
 (.cond (.bin .lss (.var 5) (.var 6))
 .skip
 (.exit 1))
 (.seq
 (.block 2
 (.seq
 (.set 7 (.var 5))
 (.seq
 (.call (some 8) 219 [(.var 0), (.var 7)] [])
 (.cond (.un .not (.var 8))
 (.seq
 (.seq
 (.set 1 (.var 7))
 (.set 2 (.const (.int .i64 22))))
 .ret)
 .skip))))
 (.set 5 (.bin .add (.var 5) (.const (.int .i64 1)))))))))
 (.seq
 (.seq
 (.seq
 (.set 10 (.len false (.var 0)))
 (.set 9 (.const (.int .i64 0))))
 (.block 3
 (.loop [0, 9, 10]
 (.seq
 (.cond (.bin .lss (.var 9) (.var 10))
 .skip
 (.exit 3))
 (.seq
 (.block 4
 (.seq
 (.set 11 (.var 9))
 (.seq
 (.call (some 12) 220 [(.var 0), (.var 11)] [])
 (.cond (.un .not (.var 12))
 (.seq
 (.seq
 (.set 1 (.var 11))
 (.set 2 (.const (.int .i64 22))))
 .ret)
 .skip))))
 (.set 9 (.bin .add (.var 9) (.const (.int .i64 1)))))))))
 (.seq
 (.set 13 (.bin .sub (.len false (.var 0)) (.const (.int .i64 1))))
 (.seq
 (.seq
 (.seq
 (.call (some 14) 221 [(.ld (some 5) (.ixSl 5 (.var 0) (.var 13)))] [])
 (.set 15 (.var 14)))
 (.cond (.pick (.bin .neq (.var 15) (.const (.int .i64 5))) (.bin .neq (.var 15) (.const (.int .i64 3))) (.const (.bool false)))
 (.seq
 (.seq
 (.set 1 (.var 13))
 (.set 2 (.const (.int .i64 22))))
 .ret)
 .skip))
 (.seq
 (.seq
 (.set 1 (.const (.int .i64 0)))
 (.set 2 (.const (.int .i64 0))))
 .ret))))))),
  [(.var 1), (.var 2)]⟩
theorem okx_179 : FnOk Tryz.prog 3 365 179 xf179 := fnOk_of Tryz.func179 (np := 1) (V := [0, 2, 3, 8, 12, 18, 17, 4, 23, 29, 28, 5, 34, 6, 45, 7]) (ks := [[0, 5, 6], [0, 9, 10]]) (by kernel_rfl)

/- slices.Index[[]bool,bool] -/
def xf180 : XF := ⟨2, [0, 1, 4, 8, 7, 5],
  (.seq
 (.set 2 (.const (.int .i64 0)))
 (.seq
 (.seq
 (.seq
 (.set 4 (.len false (.var 0)))
 (.set 3 (.const (.int .i64 0))))
 (.block 0
 (.loop [0, 1, 3, 4]
 (.seq
 (.cond (.bin .lss (.var 3) (.var 4))
 .skip
 (.exit 0))
 (.seq
 (.block 1
 (.seq
 (.set 5 (.var 3))
 (.cond (.eqx false .bool (.var 1) (.ld none (.ixSl 1 (.var 0) (.var 5))))
 (.seq
 (.set 2 (.var 5))
 .ret)
 .skip)))
 (.set 3 (.bin .add (.var 3) (.const (.int .i64 1)))))))))
 (.seq
 (.set 2 (.const (.int .i64 (-1))))
 .ret))),
  [(.var 2)]⟩
theorem okx_180 : FnOk Tryz.prog 3 365 180 xf180 := fnOk_of Tryz.func180 (np := 2) (V := [0, 1, 4, 8, 7, 5]) (ks := [[0, 1, 3, 4]]) (by kernel_rfl)

/- tipstaff/cfg.Reach -/
def xf181 : XF := ⟨1, [0, 2, 8, 3, 11, 4, 17, 16, 15, 5, 6, 34, 43],
  (.seq
 (.set 1 (.const (.slice none 0 0)))
 (.seq
 (.seq
 (.call (some 2) 222 [(.var 0)] [])
 (.set 3 (.var 2)))
 (.seq
 (.seq
 (.mk (some 4) 4 [(.bool false)] (.len false (.var 0)) (.len false (.var 0)) [])
 (.set 5 (.var 4)))
 (.seq
 (.seq
 (.seq
 (.set 8 (.ld none (.offp 1 (.nn (.var 3)))))
 (.seq
 (.set 7 (.len false (.var 8)))
 (.set 6 (.const (.int .i64 0)))))
 (.block 0
 (.loop [0, 5, 6, 7, 8]
 (.seq
 (.cond (.bin .lss (.var 6) (.var 7))
 .skip
 (.exit 0))
 (.seq
 (.block 1
 (.seq
 (.seq
 (.chk [(.ld none (.ixSl 1 (.var 8) (.var 6)))])
 (.seq
 (.set 9 (.var 6))
 (.set 10 (.ld none (.ixSl 1 (.var 8) (.var 6))))))
 (.seq
 (.store 1 (.ixSl 1 (.var 5) (.var 9)) (.bin .eql (.var 10) (.const (.int .i64 2))) [])
 (.seq
 (.seq
 (.chk [(.pick (.bin .gtr (.var 9) (.const (.int .i64 0))) (.ld (some 5) (.ixSl 5 (.var 0) (.var 9))) (.const (.bool false)))])
 (.seq
 (.cond (.pick (.bin .gtr (.var 9) (.const (.int .i64 0))) (.const (.bool true)) (.const (.bool false)))
 (.call (some 11) 223 [(.ld (some 5) (.ixSl 5 (.var 0) (.var 9)))] [])
 (.clr [11]))
 (.seq
 (.chk [(.pick (.pick (.bin .gtr (.var 9) (.const (.int .i64 0))) (.bin .eql (.var 11) (.const (.int .i64 10))) (.const (.bool false))) (.ld (some 5) (.ixSl 5 (.var 0) (.bin .sub (.var 9) (.const (.int .i64 1))))) (.const (.bool false)))])
 (.cond (.pick (.pick (.bin .gtr (.var 9) (.const (.int .i64 0))) (.bin .eql (.var 11) (.const (.int .i64 10))) (.const (.bool false))) (.const (.bool true)) (.const (.bool false)))
 (.call (some 12) 223 [(.ld (some 5) (.ixSl 5 (.var 0) (.bin .sub (.var 9) (.const (.int .i64 1)))))] [])
 (.clr [12])))))
 (.cond (.pick (.pick (.bin .gtr (.var 9) (.const (.int .i64 0))) (.bin .eql (.var 11) (.const (.int .i64 10))) (.const (.bool false))) (.bin .eql (.var 12) (.const (.int .i64 9))) (.const (.bool false)))
 (.store 1 (.ixSl 1 (.var 5) (.var 9)) (.pick (.ld none (.ixSl 1 (.var 5) (.var 9))) (.const (.bool true)) (.ld none (.ixSl 1 (.var 5) (.bin .sub (.var 9) (.const (.int .i64 1)))))) [])
 .skip)))))
 (.set 6 (.bin .add (.var 6) (.const (.int .i64 1)))))))))
 (.seq
 (.set 1 (.var 5))
 .ret))))),
  [(.var 1)]⟩
theorem okx_181 : FnOk Tryz.prog 3 365 181 xf181 := fnOk_of Tryz.func181 (np := 1) (V := [0, 2, 8, 3, 11, 4, 17, 16, 15, 5, 6, 34, 43]) (ks := [[0, 5, 6, 7, 8]]) (by kernel_rfl)

/- tipstaff/cfg.Loops -/
def xf182 : XF := ⟨1, [0, 2, 4],
  (.seq
 (.set 1 (.const (.bool false)))
 (.seq
 (.seq
 (.call (some 2) 222 [(.var 0)] [])
 (.set 1 (.ld none (.offp 2 (.nn (.var 2))))))
 .ret)),
  [(.var 1)]⟩
theorem okx_182 : FnOk Tryz.prog 3 365 182 xf182 := fnOk_of Tryz.func182 (np := 1) (V := [0, 2, 4]) (ks := []) (by kernel_rfl)

/- slices.IndexFunc[[]tipstaff/bmap.Spec,tipstaff/bmap.Spec] -/
def xf183 : XF := ⟨2, [0, 1, 4, 8, 7, 5, 16],
  (.seq
 (.set 2 (.const (.int .i64 0)))
 (.seq
 (.seq
 (.seq
 (.set 4 (.len false (.var 0)))
 (.set 3 (.const (.int .i64 0))))
 (.block 0
 (.loop [0, 1, 3, 4]
 (.seq
 (.cond (.bin .lss (.var 3) (.var 4))
 .skip
 (.exit 0))
 (.seq
 (.block 1
 (.seq
 (.set 5 (.var 3))
 (.seq
 (.dyn (some 6) (.var 1) [(.ld (some 4) (.ixSl 4 (.var 0) (.var 5)))] [])
 (.cond (.var 6)
 (.seq
 (.set 2 (.var 5))
 .ret)
 .skip))))
 (.set 3 (.bin .add (.var 3) (.const (.int .i64 1)))))))))
 (.seq
 (.set 2 (.const (.int .i64 (-1))))
 .ret))),
  [(.var 2)]⟩
theorem okx_183 : FnOk Tryz.prog 3 365 183 xf183 := fnOk_of Tryz.func183 (np := 2) (V := [0, 1, 4, 8, 7, 5, 16]) (ks := [[0, 1, 3, 4]]) (by kernel_rfl)

/- (*tipstaff/verify.checker).gone -/
def xf184 : XF := ⟨2, [0, 1, 4, 3, 11, 13],
  (.seq
 (.seq
 (.new (some 3) 265 (.var 1))
 (.set 2 (.const (.bool false))))
 (.seq
 (.seq
 .skip
 (.seq
 (.chk [(.cap1 (.const (.func (.func 225) #[] #[])) (.var 3))])
 (.seq
 (.look (some 4) (.slice none 0 0) false .i64 (.ld none (.offp 5 (.nn (.var 0)))) (.ld none (.offp 0 (.var 3))) [])
 (.seq
 (.call (some 5) 224 [(.var 4), (.cap1 (.const (.func (.func 225) #[] #[])) (.var 3))] [])
 (.set 2 (.var 5))))))
 .ret)),
  [(.var 2)]⟩
theorem okx_184 : FnOk Tryz.prog 3 365 184 xf184 := fnOk_of Tryz.func184 (np := 2) (V := [0, 1, 4, 3, 11, 13]) (ks := []) (by kernel_rfl)

/- (*tipstaff/verify.checker).step -/
def xf185 : XF := ⟨2, [0, 1, 4, 5, 3, 6, 15, 18, 7, 20, 21, 27, 30, 36, 39, 45, 41, 46, 47, 48, 53, 56, 64, 70, 73, 84, 76, 77, 78, 85, 88, 94, 97, 102, 11, 13],
  (.seq
 (.seq
 (.new (some 4) 265 (.var 1))
 (.seq
 (.set 2 (.const (.slice none 0 0)))
 (.set 3 (.const (.bool false)))))
 (.seq
 (.seq
 .skip
 (.seq
 (.set 34 (.ld none (.offp 0 (.nn (.var 0)))))
 (.seq
 (.set 35 (.ld none (.offp 0 (.var 4))))
 (.seq
 (.set 6 (.ld (some 5) (.ixSl 5 (.var 34) (.var 35))))
 (.seq
 (.new (some 5) 46 (.const zA2))
 (.store 5 (.var 5) (.var 6) []))))))
 (.seq
 (.seq
 (.call (some 7) 160 [(.ld none (.offp 0 (.var 5)))] [])
 (.seq
 (.new (some 8) 287 (.const zA3))
 (.store 5 (.var 8) (.var 7) [])))
 (.seq
 (.seq
 (.set 9 (.ld none (.offp 0 (.var 8))))
 (.block 0
 (.seq
 (.set 10 (.bin .eql (.var 9) (.const (.int .i64 1))))
 (.cond (.var 10)
 (.seq
 (.seq
 (.call (some 11) 227 [(.var 0), (.ld (some 274) (.var 4)), (.ld (some 5) (.var 5)), (.ld (some 5) (.var 8))] [])
 (.seq
 (.chk [(.proj 1 (.var 11))])
 (.seq
 (.set 2 (.proj 0 (.var 11)))
 (.set 3 (.proj 1 (.var 11))))))
 .ret)
 (.seq
 (.set 12 (.bin .eql (.var 9) (.const (.int .i64 2))))
 (.cond (.var 12)
 (.seq
 (.seq
 (.call (some 13) 228 [(.var 0), (.ld (some 274) (.var 4)), (.ld (some 5) (.var 5)), (.ld (some 5) (.var 8))] [])
 (.seq
 (.chk [(.proj 1 (.var 13))])
 (.seq
 (.set 2 (.proj 0 (.var 13)))
 (.set 3 (.proj 1 (.var 13))))))
 .ret)
 (.seq
 (.set 14 (.bin .eql (.var 9) (.const (.int .i64 3))))
 (.cond (.var 14)
 (.seq
 (.seq
 .skip
 (.seq
 (.set 16 (.ld (some 274) (.var 4)))
 (.seq
 (.call (some 15) 163 [(.ld none (.offp 0 (.var 4))), (.ld (some 5) (.var 5))] [(.ld (some 274) (.var 4))])
 (.seq
 (.call (some 17) 229 [(.var 16), (.var 15)] [])
 (.seq
 (.row (some 18) 265 1 (.upd 0 274 (.const zA18) (.var 17)))
 (.seq
 (.set 2 (.var 18))
 (.set 3 (.const (.bool true)))))))))
 .ret)
 (.seq
 (.set 19 (.bin .eql (.var 9) (.const (.int .i64 4))))
 (.cond (.var 19)
 (.seq
 (.seq
 (.call (some 20) 230 [(.var 0), (.ld (some 274) (.var 4)), (.ld (some 5) (.var 5))] [])
 (.seq
 (.chk [(.proj 1 (.var 20))])
 (.seq
 (.set 2 (.proj 0 (.var 20)))
 (.set 3 (.proj 1 (.var 20))))))
 .ret)
 (.seq
 (.set 21 (.bin .eql (.var 9) (.const (.int .i64 5))))
 (.cond (.var 21)
 (.seq
 (.seq
 .skip
 (.seq
 (.chk [(.bin .eql (.ld none (.offp 0 (.ixArr 11 11 (.offp 0 (.offp 1 (.var 4))) (.const (.int .i64 0))))) (.const (.int .i64 1)))])
 (.seq
 (.set 2 (.const (.slice none 0 0)))
 (.set 3 (.bin .eql (.ld none (.offp 0 (.ixArr 11 11 (.offp 0 (.offp 1 (.var 4))) (.const (.int .i64 0))))) (.const (.int .i64 1)))))))
 .ret)
 (.seq
 (.set 22 (.bin .eql (.var 9) (.const (.int .i64 6))))
 (.cond (.var 22)
 (.seq
 (.seq
 (.call (some 23) 231 [(.var 0), (.ld (some 274) (.var 4)), (.ld (some 5) (.var 5)), (.ld (some 5) (.var 8))] [])
 (.seq
 (.chk [(.proj 1 (.var 23))])
 (.seq
 (.set 2 (.proj 0 (.var 23)))
 (.set 3 (.proj 1 (.var 23))))))
 .ret)
 (.seq
 (.set 24 (.bin .eql (.var 9) (.const (.int .i64 7))))
 (.cond (.var 24)
 (.seq
 (.seq
 .skip
 (.seq
 (.chk [(.var 0)])
 (.seq
 (.set 26 (.ld (some 274) (.var 4)))
 (.seq
 (.set 27 (.ld (some 5) (.var 5)))
 (.seq
 (.set 28 (.ld (some 5) (.var 8)))
 (.seq
 (.call (some 25) 233 [(.ld (some 273) (.offp 1 (.var 4))), (.ld (some 5) (.var 5)), (.ld none (.offp 4 (.var 8)))] [(.ld (some 5) (.var 8)), (.ld (some 5) (.var 5)), (.ld (some 274) (.var 4))])
 (.seq
 (.call (some 29) 232 [(.var 0), (.var 26), (.var 27), (.var 28), (.var 25)] [])
 (.seq
 (.chk [(.proj 1 (.var 29))])
 (.seq
 (.set 2 (.proj 0 (.var 29)))
 (.set 3 (.proj 1 (.var 29))))))))))))
 .ret)
 (.seq
 (.set 30 (.bin .eql (.var 9) (.const (.int .i64 8))))
 (.cond (.var 30)
 (.seq
 (.seq
 (.call (some 31) 234 [(.var 0), (.ld (some 274) (.var 4)), (.ld (some 5) (.var 5)), (.ld (some 5) (.var 8))] [])
 (.seq
 (.chk [(.proj 1 (.var 31))])
 (.seq
 (.set 2 (.proj 0 (.var 31)))
 (.set 3 (.proj 1 (.var 31))))))
 .ret)
 (.seq
 (.set 32 (.bin .eql (.var 9) (.const (.int .i64 9))))
 (.cond (.var 32)
 (.seq
 (.seq
 (.call (some 33) 235 [(.var 0), (.ld (some 274) (.var 4)), (.ld (some 5) (.var 5))] [])
 (.seq
 (.chk [(.proj 1 (.var 33))])
 (.seq
 (.set 2 (.proj 0 (.var 33)))
 (.set 3 (.proj 1 (.var 33))))))
 .ret)
 .skip))))))))))))))))))))
 (.seq
 (.seq
 (.set 2 (.const (.slice none 0 0)))
 (.set 3 (.const (.bool false))))
 .ret))))),
  [(.var 2), (.var 3)]⟩
theorem okx_185 : FnOk Tryz.prog 3 365 185 xf185 := fnOk_of Tryz.func185 (np := 2) (V := [0, 1, 4, 5, 3, 6, 15, 18, 7, 20, 21, 27, 30, 36, 39, 45, 41, 46, 47, 48, 53, 56, 64, 70, 73, 84, 76, 77, 78, 85, 88, 94, 97, 102, 11, 13]) (ks := []) (by kernel_rfl)
end Go.Proofs.YtipfkfecelkhnaaGreatDoor
