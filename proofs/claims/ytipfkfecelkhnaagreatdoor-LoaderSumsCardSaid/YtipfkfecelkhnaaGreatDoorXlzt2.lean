/- The interpreter's functions, part 2: made by program (geny.py). -/
import Derived.Test.YtipfkfecelkhnaaGreatDoorXlzz
import Derived.Test.YtipfkfecelkhnaaGreatDoorProg
set_option maxRecDepth 100000
set_option linter.unusedVariables false
namespace Go.Proofs.YtipfkfecelkhnaaGreatDoor
open Go.Eng
/- slices.stableCmpFunc[*tipstaff/bmap.entry] -/
def xf188 : XF := ⟨3, [0, 1, 2, 6, 7, 8, 9],
  (.seq
 (.set 3 (.const (.int .i64 20)))
 (.seq
 (.seq
 (.chk [(.var 3)])
 (.seq
 (.set 4 (.const (.int .i64 0)))
 (.set 5 (.var 3))))
 (.seq
 (.block 0
 (.loop [0, 1, 2, 3, 4, 5]
 (.seq
 (.cond (.bin .leq (.var 5) (.var 1))
 .skip
 (.exit 0))
 (.block 1
 (.seq
 (.call none 241 [(.var 0), (.var 4), (.var 5), (.var 2)] [])
 (.seq
 (.set 4 (.var 5))
 (.set 5 (.bin .add (.var 5) (.var 3)))))))))
 (.seq
 (.call none 241 [(.var 0), (.var 4), (.var 1), (.var 2)] [])
 (.block 2
 (.loop [0, 1, 2, 3]
 (.seq
 (.cond (.bin .lss (.var 3) (.var 1))
 .skip
 (.exit 2))
 (.block 3
 (.seq
 (.seq
 (.chk [(.bin .mul (.const (.int .i64 2)) (.var 3))])
 (.seq
 (.set 4 (.const (.int .i64 0)))
 (.set 5 (.bin .mul (.const (.int .i64 2)) (.var 3)))))
 (.seq
 (.block 4
 (.loop [0, 1, 2, 3, 4, 5]
 (.seq
 (.cond (.bin .leq (.var 5) (.var 1))
 .skip
 (.exit 4))
 (.block 5
 (.seq
 (.call none 242 [(.var 0), (.var 4), (.bin .add (.var 4) (.var 3)), (.var 5), (.var 2)] [])
 (.seq
 (.set 4 (.var 5))
 (.set 5 (.bin .add (.var 5) (.bin .mul (.const (.int .i64 2)) (.var 3))))))))))
 (.seq
 (.seq
 (.set 6 (.bin .add (.var 4) (.var 3)))
 (.cond (.bin .lss (.var 6) (.var 1))
 (.call none 242 [(.var 0), (.var 4), (.var 6), (.var 1), (.var 2)] [])
 .skip))
 (.set 3 (.bin .mul (.var 3) (.const (.int .i64 2))))))))))))))),
  []⟩
theorem okx_188 : FnOk Tryz.prog 3 365 188 xf188 := fnOk_of Tryz.func188 (np := 3) (V := [0, 1, 2, 6, 7, 8, 9]) (ks := [[0, 1, 2, 3, 4, 5], [0, 1, 2, 3], [0, 1, 2, 3, 4, 5]]) (by kernel_rfl)

/- cmp.isNaN[string] -/
def xf189 : XF := ⟨1, [0, 2],
  (.seq
 (.set 1 (.const (.bool false)))
 (.seq
 (.set 1 (.bin .neq (.var 0) (.var 0)))
 .ret)),
  [(.var 1)]⟩
theorem okx_189 : FnOk Tryz.prog 3 365 189 xf189 := fnOk_of Tryz.func189 (np := 1) (V := [0, 2]) (ks := []) (by kernel_rfl)

/- tipstaff/insn.alu -/
def xf192 : XF := ⟨1, [0, 2, 3, 13],
  (.seq
 (.new (some 1) 287 (.const zA3))
 (.seq
 (.seq
 (.set 3 (.upd 4 1 (.upd 3 1 (.upd 2 1 (.upd 1 1 (.upd 0 1 (.const zA3) (.const (.int .i64 1))) (.conv .i64 (.bin .shr (.var 0) (.const (.int .u64 4))))) (.const (.int .i64 0))) (.bin .eql (.bin .and (.var 0) (.const (.int .u8 7))) (.const (.int .u8 7)))) (.bin .neq (.bin .and (.var 0) (.const (.int .u8 8))) (.const (.int .u8 0)))))
 (.seq
 (.new (some 2) 287 (.const zA3))
 (.store 5 (.var 2) (.var 3) [])))
 (.seq
 (.cond (.pick (.bin .gtr (.ld none (.offp 1 (.var 2))) (.const (.int .i64 12))) (.const (.bool true)) (.pick (.bin .eql (.ld none (.offp 1 (.var 2))) (.const (.int .i64 8))) (.ld none (.offp 4 (.var 2))) (.const (.bool false))))
 (.seq
 (.store 5 (.var 1) (.const zA3) [])
 .ret)
 .skip)
 (.seq
 (.store 5 (.var 1) (.ld (some 5) (.var 2)) [])
 .ret)))),
  [(.ld (some 5) (.var 1))]⟩
theorem okx_192 : FnOk Tryz.prog 3 365 192 xf192 := fnOk_of Tryz.func192 (np := 1) (V := [0, 2, 3, 13]) (ks := []) (by kernel_rfl)

/- tipstaff/insn.jump -/
def xf193 : XF := ⟨1, [0, 2, 3, 14, 4, 23, 29, 32, 35],
  (.seq
 (.new (some 1) 287 (.const zA3))
 (.seq
 (.seq
 (.set 3 (.upd 4 1 (.upd 3 1 (.upd 2 1 (.upd 1 1 (.upd 0 1 (.const zA3) (.const (.int .i64 2))) (.conv .i64 (.bin .shr (.var 0) (.const (.int .u64 4))))) (.const (.int .i64 0))) (.bin .eql (.bin .and (.var 0) (.const (.int .u8 7))) (.const (.int .u8 5)))) (.bin .neq (.bin .and (.var 0) (.const (.int .u8 8))) (.const (.int .u8 0)))))
 (.seq
 (.new (some 2) 287 (.const zA3))
 (.store 5 (.var 2) (.var 3) [])))
 (.seq
 (.set 4 (.pick (.ld none (.offp 3 (.var 2))) (.un .not (.ld none (.offp 4 (.var 2)))) (.const (.bool false))))
 (.seq
 (.seq
 (.set 5 (.ld none (.offp 1 (.var 2))))
 (.block 0
 (.seq
 (.set 6 (.bin .eql (.var 5) (.const (.int .i64 0))))
 (.cond (.var 6)
 (.seq
 (.chk [(.upd 0 1 (.const zA3) (.const (.int .i64 3)))])
 (.store 5 (.var 2) (.upd 0 1 (.const zA3) (.const (.int .i64 3))) []))
 (.seq
 (.set 7 (.bin .eql (.var 5) (.const (.int .i64 8))))
 (.cond (.var 7)
 (.seq
 (.chk [(.upd 0 1 (.const zA3) (.const (.int .i64 4)))])
 (.store 5 (.var 2) (.upd 0 1 (.const zA3) (.const (.int .i64 4))) []))
 (.seq
 (.set 8 (.bin .eql (.var 5) (.const (.int .i64 9))))
 (.cond (.var 8)
 (.seq
 (.chk [(.upd 0 1 (.const zA3) (.const (.int .i64 5)))])
 (.store 5 (.var 2) (.upd 0 1 (.const zA3) (.const (.int .i64 5))) []))
 (.seq
 (.cond (.bin .gtr (.ld none (.offp 1 (.var 2))) (.const (.int .i64 13)))
 (.seq
 (.store 5 (.var 1) (.const zA3) [])
 .ret)
 .skip)
 (.seq
 (.store 5 (.var 1) (.ld (some 5) (.var 2)) [])
 .ret))))))))))
 (.seq
 (.cond (.un .not (.var 4))
 (.seq
 (.store 5 (.var 1) (.const zA3) [])
 .ret)
 .skip)
 (.seq
 (.store 5 (.var 1) (.ld (some 5) (.var 2)) [])
 .ret)))))),
  [(.ld (some 5) (.var 1))]⟩
theorem okx_193 : FnOk Tryz.prog 3 365 193 xf193 := fnOk_of Tryz.func193 (np := 1) (V := [0, 2, 3, 14, 4, 23, 29, 32, 35]) (ks := []) (by kernel_rfl)

/- tipstaff/scalar.Eval -/
def xf197 : XF := ⟨4, [0, 1, 2, 3, 8, 9, 18, 23, 31, 22],
  (.seq
 (.set 4 (.const (.int .u64 0)))
 (.seq
 (.cond (.un .not (.var 1))
 (.seq
 (.chk [(.conv .u64 (.conv .u32 (.var 3)))])
 (.seq
 (.set 2 (.conv .u64 (.conv .u32 (.var 2))))
 (.set 3 (.conv .u64 (.conv .u32 (.var 3))))))
 .skip)
 (.seq
 (.set 5 (.const (.int .u64 0)))
 (.seq
 (.seq
 (.set 6 (.var 0))
 (.block 0
 (.seq
 (.seq
 (.set 7 (.bin .eql (.var 6) (.const (.int .i64 6))))
 (.cond (.var 7)
 .skip
 (.seq
 (.set 7 (.bin .eql (.var 6) (.const (.int .i64 7))))
 (.cond (.var 7)
 .skip
 (.set 7 (.bin .eql (.var 6) (.const (.int .i64 12))))))))
 (.cond (.var 7)
 (.seq
 (.call (some 8) 243 [(.var 0), (.var 1), (.var 2), (.var 3)] [])
 (.set 5 (.var 8)))
 (.seq
 (.call (some 9) 244 [(.var 0), (.var 2), (.var 3)] [])
 (.set 5 (.var 9)))))))
 (.seq
 (.cond (.un .not (.var 1))
 (.set 5 (.conv .u64 (.conv .u32 (.var 5))))
 .skip)
 (.seq
 (.set 4 (.var 5))
 .ret)))))),
  [(.var 4)]⟩
theorem okx_197 : FnOk Tryz.prog 3 365 197 xf197 := fnOk_of Tryz.func197 (np := 4) (V := [0, 1, 2, 3, 8, 9, 18, 23, 31, 22]) (ks := []) (by kernel_rfl)

/- math/bits.Len64 -/
def xf216 : XF := ⟨1, [0, 2],
  (.seq
 (.set 1 (.const (.int .i64 0)))
 (.seq
 (.cond (.bin .geq (.var 0) (.const (.int .u64 4294967296)))
 (.seq
 (.set 0 (.bin .shr (.var 0) (.const (.int .u64 32))))
 (.set 1 (.const (.int .i64 32))))
 .skip)
 (.seq
 (.cond (.bin .geq (.var 0) (.const (.int .u64 65536)))
 (.seq
 (.set 0 (.bin .shr (.var 0) (.const (.int .u64 16))))
 (.set 1 (.bin .add (.var 1) (.const (.int .i64 16)))))
 .skip)
 (.seq
 (.cond (.bin .geq (.var 0) (.const (.int .u64 256)))
 (.seq
 (.set 0 (.bin .shr (.var 0) (.const (.int .u64 8))))
 (.set 1 (.bin .add (.var 1) (.const (.int .i64 8)))))
 .skip)
 (.seq
 (.seq
 (.chk [(.bin .add (.var 1) (.conv .i64 (.idxStr (.const (.string ⟨#[0, 1, 2, 2, 3, 3, 3, 3, 4, 4, 4, 4, 4, 4, 4, 4, 5, 5, 5, 5, 5, 5, 5, 5, 5, 5, 5, 5, 5, 5, 5, 5, 6, 6, 6, 6, 6, 6, 6, 6, 6, 6, 6, 6, 6, 6, 6, 6, 6, 6, 6, 6, 6, 6, 6, 6, 6, 6, 6, 6, 6, 6, 6, 6, 7, 7, 7, 7, 7, 7, 7, 7, 7, 7, 7, 7, 7, 7, 7, 7, 7, 7, 7, 7, 7, 7, 7, 7, 7, 7, 7, 7, 7, 7, 7, 7, 7, 7, 7, 7, 7, 7, 7, 7, 7, 7, 7, 7, 7, 7, 7, 7, 7, 7, 7, 7, 7, 7, 7, 7, 7, 7, 7, 7, 7, 7, 7, 7, 8, 8, 8, 8, 8, 8, 8, 8, 8, 8, 8, 8, 8, 8, 8, 8, 8, 8, 8, 8, 8, 8, 8, 8, 8, 8, 8, 8, 8, 8, 8, 8, 8, 8, 8, 8, 8, 8, 8, 8, 8, 8, 8, 8, 8, 8, 8, 8, 8, 8, 8, 8, 8, 8, 8, 8, 8, 8, 8, 8, 8, 8, 8, 8, 8, 8, 8, 8, 8, 8, 8, 8, 8, 8, 8, 8, 8, 8, 8, 8, 8, 8, 8, 8, 8, 8, 8, 8, 8, 8, 8, 8, 8, 8, 8, 8, 8, 8, 8, 8, 8, 8, 8, 8, 8, 8, 8, 8, 8, 8, 8, 8, 8, 8, 8, 8, 8, 8, 8, 8, 8, 8, 8, 8, 8, 8, 8, 8]⟩)) (.conv .u8 (.var 0))))), (.conv .i64 (.idxStr (.const (.string ⟨#[0, 1, 2, 2, 3, 3, 3, 3, 4, 4, 4, 4, 4, 4, 4, 4, 5, 5, 5, 5, 5, 5, 5, 5, 5, 5, 5, 5, 5, 5, 5, 5, 6, 6, 6, 6, 6, 6, 6, 6, 6, 6, 6, 6, 6, 6, 6, 6, 6, 6, 6, 6, 6, 6, 6, 6, 6, 6, 6, 6, 6, 6, 6, 6, 7, 7, 7, 7, 7, 7, 7, 7, 7, 7, 7, 7, 7, 7, 7, 7, 7, 7, 7, 7, 7, 7, 7, 7, 7, 7, 7, 7, 7, 7, 7, 7, 7, 7, 7, 7, 7, 7, 7, 7, 7, 7, 7, 7, 7, 7, 7, 7, 7, 7, 7, 7, 7, 7, 7, 7, 7, 7, 7, 7, 7, 7, 7, 7, 8, 8, 8, 8, 8, 8, 8, 8, 8, 8, 8, 8, 8, 8, 8, 8, 8, 8, 8, 8, 8, 8, 8, 8, 8, 8, 8, 8, 8, 8, 8, 8, 8, 8, 8, 8, 8, 8, 8, 8, 8, 8, 8, 8, 8, 8, 8, 8, 8, 8, 8, 8, 8, 8, 8, 8, 8, 8, 8, 8, 8, 8, 8, 8, 8, 8, 8, 8, 8, 8, 8, 8, 8, 8, 8, 8, 8, 8, 8, 8, 8, 8, 8, 8, 8, 8, 8, 8, 8, 8, 8, 8, 8, 8, 8, 8, 8, 8, 8, 8, 8, 8, 8, 8, 8, 8, 8, 8, 8, 8, 8, 8, 8, 8, 8, 8, 8, 8, 8, 8, 8, 8, 8, 8, 8, 8, 8, 8]⟩)) (.conv .u8 (.var 0)))), (.idxStr (.const (.string ⟨#[0, 1, 2, 2, 3, 3, 3, 3, 4, 4, 4, 4, 4, 4, 4, 4, 5, 5, 5, 5, 5, 5, 5, 5, 5, 5, 5, 5, 5, 5, 5, 5, 6, 6, 6, 6, 6, 6, 6, 6, 6, 6, 6, 6, 6, 6, 6, 6, 6, 6, 6, 6, 6, 6, 6, 6, 6, 6, 6, 6, 6, 6, 6, 6, 7, 7, 7, 7, 7, 7, 7, 7, 7, 7, 7, 7, 7, 7, 7, 7, 7, 7, 7, 7, 7, 7, 7, 7, 7, 7, 7, 7, 7, 7, 7, 7, 7, 7, 7, 7, 7, 7, 7, 7, 7, 7, 7, 7, 7, 7, 7, 7, 7, 7, 7, 7, 7, 7, 7, 7, 7, 7, 7, 7, 7, 7, 7, 7, 8, 8, 8, 8, 8, 8, 8, 8, 8, 8, 8, 8, 8, 8, 8, 8, 8, 8, 8, 8, 8, 8, 8, 8, 8, 8, 8, 8, 8, 8, 8, 8, 8, 8, 8, 8, 8, 8, 8, 8, 8, 8, 8, 8, 8, 8, 8, 8, 8, 8, 8, 8, 8, 8, 8, 8, 8, 8, 8, 8, 8, 8, 8, 8, 8, 8, 8, 8, 8, 8, 8, 8, 8, 8, 8, 8, 8, 8, 8, 8, 8, 8, 8, 8, 8, 8, 8, 8, 8, 8, 8, 8, 8, 8, 8, 8, 8, 8, 8, 8, 8, 8, 8, 8, 8, 8, 8, 8, 8, 8, 8, 8, 8, 8, 8, 8, 8, 8, 8, 8, 8, 8, 8, 8, 8, 8, 8, 8]⟩)) (.conv .u8 (.var 0)))])
 (.set 1 (.bin .add (.var 1) (.conv .i64 (.idxStr (.const (.string ⟨#[0, 1, 2, 2, 3, 3, 3, 3, 4, 4, 4, 4, 4, 4, 4, 4, 5, 5, 5, 5, 5, 5, 5, 5, 5, 5, 5, 5, 5, 5, 5, 5, 6, 6, 6, 6, 6, 6, 6, 6, 6, 6, 6, 6, 6, 6, 6, 6, 6, 6, 6, 6, 6, 6, 6, 6, 6, 6, 6, 6, 6, 6, 6, 6, 7, 7, 7, 7, 7, 7, 7, 7, 7, 7, 7, 7, 7, 7, 7, 7, 7, 7, 7, 7, 7, 7, 7, 7, 7, 7, 7, 7, 7, 7, 7, 7, 7, 7, 7, 7, 7, 7, 7, 7, 7, 7, 7, 7, 7, 7, 7, 7, 7, 7, 7, 7, 7, 7, 7, 7, 7, 7, 7, 7, 7, 7, 7, 7, 8, 8, 8, 8, 8, 8, 8, 8, 8, 8, 8, 8, 8, 8, 8, 8, 8, 8, 8, 8, 8, 8, 8, 8, 8, 8, 8, 8, 8, 8, 8, 8, 8, 8, 8, 8, 8, 8, 8, 8, 8, 8, 8, 8, 8, 8, 8, 8, 8, 8, 8, 8, 8, 8, 8, 8, 8, 8, 8, 8, 8, 8, 8, 8, 8, 8, 8, 8, 8, 8, 8, 8, 8, 8, 8, 8, 8, 8, 8, 8, 8, 8, 8, 8, 8, 8, 8, 8, 8, 8, 8, 8, 8, 8, 8, 8, 8, 8, 8, 8, 8, 8, 8, 8, 8, 8, 8, 8, 8, 8, 8, 8, 8, 8, 8, 8, 8, 8, 8, 8, 8, 8, 8, 8, 8, 8, 8, 8]⟩)) (.conv .u8 (.var 0)))))))
 .ret))))),
  [(.var 1)]⟩
theorem okx_216 : FnOk Tryz.prog 3 365 216 xf216 := fnOk_of Tryz.func216 (np := 1) (V := [0, 2]) (ks := []) (by kernel_rfl)

/- slices.pdqsortOrdered[int32] -/
def xf217 : XF := ⟨4, [0, 1, 2, 3, 8, 9, 10, 46, 11, 12, 72, 85, 92, 13, 99, 14, 15, 16, 17, 18],
  (.seq
 (.set 4 (.const (.bool true)))
 (.seq
 (.set 5 (.const (.bool true)))
 (.block 0
 (.loop [0, 1, 2, 3, 4, 5]
 (.block 1
 (.seq
 (.set 6 (.bin .sub (.var 2) (.var 1)))
 (.seq
 (.cond (.bin .leq (.var 6) (.const (.int .i64 12)))
 (.seq
 (.call none 267 [(.var 0), (.var 1), (.var 2)] [])
 .ret)
 .skip)
 (.seq
 (.cond (.bin .eql (.var 3) (.const (.int .i64 0)))
 (.seq
 (.call none 268 [(.var 0), (.var 1), (.var 2)] [])
 .ret)
 .skip)
 (.seq
 (.cond (.un .not (.var 4))
 (.seq
 (.call none 269 [(.var 0), (.var 1), (.var 2)] [])
 (.set 3 (.bin .sub (.var 3) (.const (.int .i64 1)))))
 .skip)
 (.seq
 (.seq
 (.call (some 7) 270 [(.var 0), (.var 1), (.var 2)] [])
 (.seq
 (.chk [(.proj 1 (.var 7))])
 (.seq
 (.set 8 (.proj 0 (.var 7)))
 (.set 9 (.proj 1 (.var 7))))))
 (.seq
 (.cond (.bin .eql (.var 9) (.const (.int .i64 2)))
 (.seq
 (.call none 271 [(.var 0), (.var 1), (.var 2)] [])
 (.seq
 (.set 8 (.bin .sub (.bin .sub (.var 2) (.const (.int .i64 1))) (.bin .sub (.var 8) (.var 1))))
 (.set 9 (.const (.int .i64 1)))))
 .skip)
 (.seq
 (.cond (.pick (.pick (.var 4) (.var 5) (.const (.bool false))) (.bin .eql (.var 9) (.const (.int .i64 1))) (.const (.bool false)))
 (.seq
 (.call (some 10) 272 [(.var 0), (.var 1), (.var 2)] [])
 (.cond (.var 10)
 .ret
 .skip))
 .skip)
 (.seq
 (.seq
 (.seq
 .skip
 (.seq
 (.chk [(.pick (.bin .gtr (.var 1) (.const (.int .i64 0))) (.ld none (.ixSl 1 (.var 0) (.var 8))) (.const (.bool false))), (.pick (.bin .gtr (.var 1) (.const (.int .i64 0))) (.ld none (.ixSl 1 (.var 0) (.bin .sub (.var 1) (.const (.int .i64 1))))) (.const (.bool false)))])
 (.cond (.pick (.bin .gtr (.var 1) (.const (.int .i64 0))) (.const (.bool true)) (.const (.bool false)))
 (.call (some 11) 273 [(.ld none (.ixSl 1 (.var 0) (.bin .sub (.var 1) (.const (.int .i64 1))))), (.ld none (.ixSl 1 (.var 0) (.var 8)))] [])
 (.clr [11]))))
 (.cond (.pick (.bin .gtr (.var 1) (.const (.int .i64 0))) (.un .not (.var 11)) (.const (.bool false)))
 (.seq
 (.seq
 (.call (some 12) 274 [(.var 0), (.var 1), (.var 2), (.var 8)] [])
 (.set 13 (.var 12)))
 (.seq
 (.set 1 (.var 13))
 (.exit 1)))
 .skip))
 (.seq
 (.seq
 (.call (some 14) 275 [(.var 0), (.var 1), (.var 2), (.var 8)] [])
 (.seq
 (.chk [(.proj 1 (.var 14))])
 (.seq
 (.set 15 (.proj 0 (.var 14)))
 (.set 16 (.proj 1 (.var 14))))))
 (.seq
 (.set 5 (.var 16))
 (.seq
 (.seq
 (.chk [(.bin .sub (.var 2) (.var 15))])
 (.seq
 (.set 17 (.bin .sub (.var 15) (.var 1)))
 (.set 18 (.bin .sub (.var 2) (.var 15)))))
 (.seq
 (.set 19 (.bin .quo (.var 6) (.const (.int .i64 8))))
 (.cond (.bin .lss (.var 17) (.var 18))
 (.seq
 (.set 4 (.bin .geq (.var 17) (.var 19)))
 (.seq
 (.call none 217 [(.var 0), (.var 1), (.var 15), (.var 3)] [])
 (.set 1 (.bin .add (.var 15) (.const (.int .i64 1))))))
 (.seq
 (.set 4 (.bin .geq (.var 18) (.var 19)))
 (.seq
 (.call none 217 [(.var 0), (.bin .add (.var 15) (.const (.int .i64 1))), (.var 2), (.var 3)] [])
 (.set 2 (.var 15)))))))))))))))))))))),
  []⟩
theorem okx_217 : FnOk Tryz.prog 3 365 217 xf217 := fnOk_of Tryz.func217 (np := 4) (V := [0, 1, 2, 3, 8, 9, 10, 46, 11, 12, 72, 85, 92, 13, 99, 14, 15, 16, 17, 18]) (ks := [[0, 1, 2, 3, 4, 5]]) (by kernel_rfl)

/- tipstaff/shape.one -/
def xf219 : XF := ⟨2, [0, 1, 4, 5, 12, 15, 6, 22, 20, 19, 23, 29, 26, 37, 38, 43, 44, 49, 7, 8, 53, 57, 58, 62, 63, 73],
  (.seq
 (.set 2 (.const (.bool false)))
 (.seq
 (.seq
 (.set 4 (.ld (some 5) (.ixSl 5 (.var 0) (.var 1))))
 (.seq
 (.new (some 3) 46 (.const zA2))
 (.store 5 (.var 3) (.var 4) [])))
 (.seq
 (.seq
 (.call (some 5) 160 [(.ld none (.offp 0 (.var 3)))] [])
 (.seq
 (.new (some 6) 287 (.const zA3))
 (.store 5 (.var 6) (.var 5) [])))
 (.seq
 (.seq
 (.seq
 .skip
 (.seq
 (.set 9 (.bin .eql (.ld none (.offp 0 (.var 6))) (.const (.int .i64 0))))
 (.seq
 (.cond (.pick (.var 9) (.const (.bool false)) (.const (.bool true)))
 (.set 8 (.ld (some 5) (.var 3)))
 (.clr [8]))
 (.seq
 (.chk [(.pick (.var 9) (.const (.bool false)) (.ld (some 5) (.var 6)))])
 (.seq
 (.cond (.pick (.var 9) (.const (.bool false)) (.const (.bool true)))
 (.call (some 7) 277 [(.ld (some 5) (.var 6))] [(.ld (some 5) (.var 3))])
 (.clr [7]))
 (.seq
 (.cond (.pick (.var 9) (.const (.bool false)) (.const (.bool true)))
 (.call (some 10) 276 [(.var 8), (.var 7)] [])
 (.clr [10]))
 (.seq
 (.set 12 (.pick (.var 9) (.const (.bool true)) (.un .not (.var 10))))
 (.seq
 (.chk [(.pick (.var 12) (.const (.bool false)) (.ld none (.offp 0 (.var 6))))])
 (.cond (.pick (.var 12) (.const (.bool false)) (.const (.bool true)))
 (.call (some 11) 278 [(.ld none (.offp 0 (.var 6)))] [])
 (.clr [11]))))))))))
 (.cond (.pick (.var 12) (.const (.bool true)) (.pick (.var 11) (.bin .eql (.ld none (.offp 1 (.var 3))) (.const (.int .u8 10))) (.const (.bool false))))
 (.seq
 (.set 2 (.const (.bool false)))
 .ret)
 .skip))
 (.seq
 (.seq
 (.set 13 (.ld none (.offp 0 (.var 6))))
 (.block 0
 (.seq
 (.set 14 (.bin .eql (.var 13) (.const (.int .i64 1))))
 (.cond (.var 14)
 (.seq
 (.seq
 (.call (some 15) 279 [(.ld (some 5) (.var 6)), (.ld none (.offp 4 (.var 3)))] [])
 (.set 2 (.var 15)))
 .ret)
 (.seq
 (.set 16 (.bin .eql (.var 13) (.const (.int .i64 4))))
 (.cond (.var 16)
 (.seq
 (.seq
 (.call (some 17) 280 [(.ld none (.offp 4 (.var 3)))] [])
 (.seq
 (.chk [(.proj 1 (.var 17))])
 (.seq
 (.set 18 (.proj 0 (.var 17)))
 (.set 19 (.proj 1 (.var 17))))))
 (.seq
 (.set 2 (.var 19))
 .ret))
 (.seq
 (.set 20 (.bin .eql (.var 13) (.const (.int .i64 8))))
 (.cond (.var 20)
 (.seq
 (.seq
 (.call (some 21) 281 [(.ld none (.offp 4 (.var 3)))] [])
 (.set 2 (.var 21)))
 .ret)
 (.seq
 (.set 22 (.bin .eql (.var 13) (.const (.int .i64 9))))
 (.cond (.var 22)
 (.seq
 (.seq
 (.call (some 23) 282 [(.var 0), (.var 1)] [])
 (.set 2 (.var 23)))
 .ret)
 (.seq
 (.set 24 (.bin .eql (.var 13) (.const (.int .i64 10))))
 (.cond (.var 24)
 (.seq
 (.seq
 (.chk [(.pick (.bin .gtr (.var 1) (.const (.int .i64 0))) (.ld (some 5) (.ixSl 5 (.var 0) (.bin .sub (.var 1) (.const (.int .i64 1))))) (.const (.bool false)))])
 (.seq
 (.cond (.pick (.bin .gtr (.var 1) (.const (.int .i64 0))) (.const (.bool true)) (.const (.bool false)))
 (.call (some 25) 221 [(.ld (some 5) (.ixSl 5 (.var 0) (.bin .sub (.var 1) (.const (.int .i64 1)))))] [])
 (.clr [25]))
 (.set 2 (.pick (.bin .gtr (.var 1) (.const (.int .i64 0))) (.bin .eql (.var 25) (.const (.int .i64 9))) (.const (.bool false))))))
 .ret)
 .skip))))))))))))
 (.seq
 (.set 2 (.const (.bool true)))
 .ret)))))),
  [(.var 2)]⟩
theorem okx_219 : FnOk Tryz.prog 3 365 219 xf219 := fnOk_of Tryz.func219 (np := 2) (V := [0, 1, 4, 5, 12, 15, 6, 22, 20, 19, 23, 29, 26, 37, 38, 43, 44, 49, 7, 8, 53, 57, 58, 62, 63, 73]) (ks := []) (by kernel_rfl)

/- tipstaff/shape.lands -/
def xf220 : XF := ⟨2, [0, 1, 4, 11, 5, 23, 6, 37],
  (.seq
 (.set 2 (.const (.bool false)))
 (.seq
 (.seq
 (.seq
 (.call (some 3) 221 [(.ld (some 5) (.ixSl 5 (.var 0) (.var 1)))] [])
 (.set 4 (.var 3)))
 (.cond (.pick (.bin .neq (.var 4) (.const (.int .i64 2))) (.bin .neq (.var 4) (.const (.int .i64 3))) (.const (.bool false)))
 (.seq
 (.set 2 (.const (.bool true)))
 .ret)
 .skip))
 (.seq
 (.seq
 (.call (some 5) 163 [(.var 1), (.ld (some 5) (.ixSl 5 (.var 0) (.var 1)))] [])
 (.set 6 (.var 5)))
 (.seq
 (.seq
 (.chk [(.pick (.pick (.bin .geq (.var 6) (.const (.int .i64 0))) (.bin .lss (.var 6) (.len false (.var 0))) (.const (.bool false))) (.ld (some 5) (.ixSl 5 (.var 0) (.var 6))) (.const (.bool false)))])
 (.seq
 (.cond (.pick (.pick (.bin .geq (.var 6) (.const (.int .i64 0))) (.bin .lss (.var 6) (.len false (.var 0))) (.const (.bool false))) (.const (.bool true)) (.const (.bool false)))
 (.call (some 7) 221 [(.ld (some 5) (.ixSl 5 (.var 0) (.var 6)))] [])
 (.clr [7]))
 (.set 2 (.pick (.pick (.bin .geq (.var 6) (.const (.int .i64 0))) (.bin .lss (.var 6) (.len false (.var 0))) (.const (.bool false))) (.bin .neq (.var 7) (.const (.int .i64 10))) (.const (.bool false))))))
 .ret)))),
  [(.var 2)]⟩
theorem okx_220 : FnOk Tryz.prog 3 365 220 xf220 := fnOk_of Tryz.func220 (np := 2) (V := [0, 1, 4, 11, 5, 23, 6, 37]) (ks := []) (by kernel_rfl)

/- tipstaff/shape.kind -/
def xf221 : XF := ⟨1, [0, 2, 1, 5],
  (.seq
 (.seq
 (.new (some 2) 46 (.var 0))
 (.set 1 (.const (.int .i64 0))))
 (.seq
 (.seq
 (.call (some 3) 160 [(.ld none (.offp 0 (.var 2)))] [])
 (.set 1 (.part none 0 (.var 3))))
 .ret)),
  [(.var 1)]⟩
theorem okx_221 : FnOk Tryz.prog 3 365 221 xf221 := fnOk_of Tryz.func221 (np := 1) (V := [0, 2, 1, 5]) (ks := []) (by kernel_rfl)

/- tipstaff/cfg.walked -/
def xf222 : XF := ⟨1, [0, 2, 7, 9, 3],
  (.seq
 (.set 1 (.const (.pointer none)))
 (.seq
 (.seq
 (.mk (some 2) 3 [(.int .i64 0)] (.len false (.var 0)) (.len false (.var 0)) [])
 (.seq
 (.chk [(.upd 1 1 (.upd 0 1 (.const (.agg #[(.slice none 0 0), (.slice none 0 0), (.bool false)])) (.var 0)) (.var 2))])
 (.seq
 (.new (some 3) 348 (.upd 1 1 (.upd 0 1 (.const (.agg #[(.slice none 0 0), (.slice none 0 0), (.bool false)])) (.var 0)) (.var 2)))
 (.set 4 (.var 3)))))
 (.seq
 (.cond (.bin .gtr (.len false (.var 0)) (.const (.int .i64 0)))
 (.call none 283 [(.var 4), (.const (.int .i64 0))] [])
 .skip)
 (.seq
 (.set 1 (.var 4))
 .ret)))),
  [(.var 1)]⟩
theorem okx_222 : FnOk Tryz.prog 3 365 222 xf222 := fnOk_of Tryz.func222 (np := 1) (V := [0, 2, 7, 9, 3]) (ks := []) (by kernel_rfl)

/- tipstaff/cfg.kind -/
def xf223 : XF := ⟨1, [0, 2, 1, 5],
  (.seq
 (.seq
 (.new (some 2) 46 (.var 0))
 (.set 1 (.const (.int .i64 0))))
 (.seq
 (.seq
 (.call (some 3) 160 [(.ld none (.offp 0 (.var 2)))] [])
 (.set 1 (.part none 0 (.var 3))))
 .ret)),
  [(.var 1)]⟩
theorem okx_223 : FnOk Tryz.prog 3 365 223 xf223 := fnOk_of Tryz.func223 (np := 1) (V := [0, 2, 1, 5]) (ks := []) (by kernel_rfl)

/- slices.ContainsFunc[[]tipstaff/absreg.State,tipstaff/absreg.State] -/
def xf224 : XF := ⟨2, [0, 1, 4, 7],
  (.seq
 (.set 2 (.const (.bool false)))
 (.seq
 (.seq
 (.call (some 3) 284 [(.var 0), (.var 1)] [])
 (.set 2 (.bin .geq (.var 3) (.const (.int .i64 0)))))
 .ret)),
  [(.var 2)]⟩
theorem okx_224 : FnOk Tryz.prog 3 365 224 xf224 := fnOk_of Tryz.func224 (np := 2) (V := [0, 1, 4, 7]) (ks := []) (by kernel_rfl)

/- (*tipstaff/verify.checker).alu -/
def xf227 : XF := ⟨4, [0, 1, 2, 3, 8, 9, 5, 6, 7, 26, 10, 11, 20, 22, 23, 25, 35, 52, 12, 58, 65, 13, 14, 84, 16],
  (.seq
 (.seq
 (.new (some 6) 265 (.var 1))
 (.seq
 (.new (some 7) 46 (.var 2))
 (.seq
 (.new (some 8) 287 (.var 3))
 (.seq
 (.set 4 (.const (.slice none 0 0)))
 (.set 5 (.const (.bool false)))))))
 (.seq
 (.seq
 .skip
 (.seq
 (.set 24 (.ld none (.offp 1 (.var 7))))
 (.seq
 (.set 12 (.ld (some 11) (.ixArr 11 11 (.offp 0 (.offp 1 (.var 6))) (.var 24))))
 (.seq
 (.set 13 (.ld (some 273) (.offp 1 (.var 6))))
 (.seq
 (.set 14 (.ld (some 5) (.var 7)))
 (.seq
 (.set 15 (.ld none (.offp 4 (.var 8))))
 (.seq
 (.resv 2)
 (.seq
 (.seq
 (.set 10 (.const (.bool true)))
 (.seq
 (.set 11 (.const (.bool true)))
 .skip))
 (.seq
 (.chk [(.var 10), (.var 11)])
 (.seq
 (.clr [10, 11])
 (.seq
 (.chk [(.const zA9), (.const zA9)])
 (.seq
 (.call (some 9) 233 [(.var 13), (.var 14), (.var 15)] [(.ld none (.offp 4 (.var 8))), (.ld (some 5) (.var 7)), (.ld (some 273) (.offp 1 (.var 6))), (.ld (some 11) (.ixArr 11 11 (.offp 0 (.offp 1 (.var 6))) (.var 24))), (.ld none (.offp 1 (.var 7)))])
 (.seq
 (.newR 0 10 257 (.const zA9))
 (.seq
 (.newR 1 11 257 (.const zA9))
 (.seq
 (.store 11 (.var 10) (.var 12) [])
 (.seq
 (.store 11 (.var 11) (.var 9) [])
 .skip))))))))))))))))
 (.seq
 (.cond (.pick (.bin .eql (.ld none (.offp 1 (.var 8))) (.const (.int .i64 11))) (.bin .eql (.ld none (.offp 0 (.var 11))) (.const (.int .i64 1))) (.const (.bool false)))
 (.seq
 (.call (some 16) 286 [(.const (.int .u64 0))] [])
 (.store 11 (.var 10) (.var 16) []))
 .skip)
 (.seq
 (.cond (.pick (.bin .eql (.ld none (.offp 0 (.var 10))) (.const (.int .i64 1))) (.bin .eql (.ld none (.offp 0 (.var 11))) (.const (.int .i64 1))) (.const (.bool false)))
 (.seq
 (.seq
 (.call (some 17) 287 [(.ld none (.offp 1 (.var 8))), (.ld none (.offp 3 (.var 8))), (.ld (some 6) (.offp 1 (.var 10))), (.ld (some 6) (.offp 1 (.var 11)))] [])
 (.seq
 (.chk [(.upd 1 6 (.upd 0 1 (.const zA9) (.const (.int .i64 1))) (.var 17))])
 (.seq
 (.new (some 18) 257 (.const zA9))
 (.store 11 (.var 18) (.upd 1 6 (.upd 0 1 (.const zA9) (.const (.int .i64 1))) (.var 17)) []))))
 (.seq
 (.seq
 (.call (some 19) 288 [(.ld (some 274) (.var 6)), (.ld none (.offp 1 (.var 7))), (.ld (some 11) (.var 18)), (.const (.int .i64 1))] [])
 (.seq
 (.set 4 (.var 19))
 (.set 5 (.const (.bool true)))))
 .ret))
 .skip)
 (.seq
 (.seq
 (.call (some 20) 289 [(.var 0), (.ld none (.offp 1 (.var 8))), (.ld (some 11) (.var 10)), (.ld (some 11) (.var 11))] [])
 (.seq
 (.chk [(.proj 1 (.var 20)), (.proj 0 (.var 20))])
 (.seq
 (.new (some 21) 257 (.const zA9))
 (.seq
 (.store 11 (.var 21) (.proj 0 (.var 20)) [])
 (.set 22 (.proj 1 (.var 20)))))))
 (.seq
 (.cond (.pick (.pick (.un .not (.var 22)) (.const (.bool true)) (.un .not (.ld none (.offp 3 (.var 8))))) (.const (.bool true)) (.bin .eql (.ld none (.offp 1 (.var 8))) (.const (.int .i64 8))))
 (.seq
 (.seq
 (.set 4 (.const (.slice none 0 0)))
 (.set 5 (.const (.bool false))))
 .ret)
 .skip)
 (.seq
 (.seq
 (.call (some 23) 288 [(.ld (some 274) (.var 6)), (.ld none (.offp 1 (.var 7))), (.ld (some 11) (.var 21)), (.const (.int .i64 1))] [])
 (.seq
 (.set 4 (.var 23))
 (.set 5 (.const (.bool true)))))
 .ret))))))),
  [(.var 4), (.var 5)]⟩
theorem okx_227 : FnOk Tryz.prog 3 365 227 xf227 := fnOk_of Tryz.func227 (np := 4) (V := [0, 1, 2, 3, 8, 9, 5, 6, 7, 26, 10, 11, 20, 22, 23, 25, 35, 52, 12, 58, 65, 13, 14, 84, 16]) (ks := []) (by kernel_rfl)

/- tipstaff/verify.second -/
def xf233 : XF := ⟨3, [0, 1, 2, 6, 3, 4, 17],
  (.seq
 (.seq
 (.new (some 4) 262 (.var 0))
 (.seq
 (.new (some 5) 46 (.var 1))
 (.new (some 3) 257 (.const zA9))))
 (.seq
 (.cond (.var 2)
 (.seq
 (.store 11 (.var 3) (.ld (some 11) (.ixArr 11 11 (.offp 0 (.var 4)) (.ld none (.offp 2 (.var 5))))) [])
 .ret)
 .skip)
 (.seq
 (.seq
 (.call (some 6) 286 [(.conv .u64 (.conv .i64 (.ld none (.offp 4 (.var 5)))))] [])
 (.store 11 (.var 3) (.var 6) []))
 .ret))),
  [(.ld (some 11) (.var 3))]⟩
theorem okx_233 : FnOk Tryz.prog 3 365 233 xf233 := fnOk_of Tryz.func233 (np := 3) (V := [0, 1, 2, 6, 3, 4, 17]) (ks := []) (by kernel_rfl)

/- slices.insertionSortCmpFunc[*tipstaff/bmap.entry] -/
def xf241 : XF := ⟨4, [0, 1, 2, 3, 8, 9, 32, 50],
  (.seq
 (.set 4 (.bin .add (.var 1) (.const (.int .i64 1))))
 (.block 0
 (.loop [0, 1, 2, 3, 4]
 (.seq
 (.cond (.bin .lss (.var 4) (.var 2))
 .skip
 (.exit 0))
 (.seq
 (.block 1
 (.seq
 (.set 5 (.var 4))
 (.block 2
 (.loop [0, 1, 2, 3, 4, 5]
 (.seq
 (.seq
 (.seq
 .skip
 (.seq
 (.chk [(.pick (.bin .gtr (.var 5) (.var 1)) (.ld none (.ixSl 1 (.var 0) (.bin .sub (.var 5) (.const (.int .i64 1))))) (.const (.bool false))), (.pick (.bin .gtr (.var 5) (.var 1)) (.ld none (.ixSl 1 (.var 0) (.var 5))) (.const (.bool false))), (.pick (.bin .gtr (.var 5) (.var 1)) (.var 3) (.const (.bool false)))])
 (.cond (.pick (.bin .gtr (.var 5) (.var 1)) (.const (.bool true)) (.const (.bool false)))
 (.dyn (some 6) (.var 3) [(.ld none (.ixSl 1 (.var 0) (.var 5))), (.ld none (.ixSl 1 (.var 0) (.bin .sub (.var 5) (.const (.int .i64 1)))))] [])
 (.clr [6]))))
 (.cond (.pick (.bin .gtr (.var 5) (.var 1)) (.bin .lss (.var 6) (.const (.int .i64 0))) (.const (.bool false)))
 .skip
 (.exit 2)))
 (.seq
 (.block 3
 (.seq
 .skip
 (.seq
 (.chk [(.ld none (.ixSl 1 (.var 0) (.bin .sub (.var 5) (.const (.int .i64 1)))))])
 (.seq
 (.set 7 (.ld none (.ixSl 1 (.var 0) (.var 5))))
 (.seq
 (.store 1 (.ixSl 1 (.var 0) (.var 5)) (.ld none (.ixSl 1 (.var 0) (.bin .sub (.var 5) (.const (.int .i64 1))))) [])
 (.store 1 (.ixSl 1 (.var 0) (.bin .sub (.var 5) (.const (.int .i64 1)))) (.var 7) []))))))
 (.set 5 (.bin .sub (.var 5) (.const (.int .i64 1))))))))))
 (.set 4 (.bin .add (.var 4) (.const (.int .i64 1))))))))),
  []⟩
theorem okx_241 : FnOk Tryz.prog 3 365 241 xf241 := fnOk_of Tryz.func241 (np := 4) (V := [0, 1, 2, 3, 8, 9, 32, 50]) (ks := [[0, 1, 2, 3, 4], [0, 1, 2, 3, 4, 5]]) (by kernel_rfl)

/- tipstaff/scalar.plain -/
def xf244 : XF := ⟨3, [0, 1, 2, 6, 7, 8, 13, 18, 23, 28, 33, 37, 42, 45, 52],
  (.seq
 (.set 3 (.const (.int .u64 0)))
 (.seq
 (.seq
 (.set 4 (.var 0))
 (.block 0
 (.seq
 (.set 5 (.bin .eql (.var 4) (.const (.int .i64 0))))
 (.cond (.var 5)
 (.seq
 (.set 3 (.bin .add (.var 1) (.var 2)))
 .ret)
 (.seq
 (.set 6 (.bin .eql (.var 4) (.const (.int .i64 1))))
 (.cond (.var 6)
 (.seq
 (.set 3 (.bin .sub (.var 1) (.var 2)))
 .ret)
 (.seq
 (.set 7 (.bin .eql (.var 4) (.const (.int .i64 2))))
 (.cond (.var 7)
 (.seq
 (.set 3 (.bin .mul (.var 1) (.var 2)))
 .ret)
 (.seq
 (.set 8 (.bin .eql (.var 4) (.const (.int .i64 4))))
 (.cond (.var 8)
 (.seq
 (.set 3 (.bin .or (.var 1) (.var 2)))
 .ret)
 (.seq
 (.set 9 (.bin .eql (.var 4) (.const (.int .i64 5))))
 (.cond (.var 9)
 (.seq
 (.set 3 (.bin .and (.var 1) (.var 2)))
 .ret)
 (.seq
 (.set 10 (.bin .eql (.var 4) (.const (.int .i64 8))))
 (.cond (.var 10)
 (.seq
 (.set 3 (.un .neg (.var 1)))
 .ret)
 (.seq
 (.set 11 (.bin .eql (.var 4) (.const (.int .i64 10))))
 (.cond (.var 11)
 (.seq
 (.set 3 (.bin .xor (.var 1) (.var 2)))
 .ret)
 (.seq
 (.set 12 (.bin .eql (.var 4) (.const (.int .i64 11))))
 (.cond (.var 12)
 (.seq
 (.set 3 (.var 2))
 .ret)
 (.seq
 (.set 13 (.bin .eql (.var 4) (.const (.int .i64 3))))
 (.cond (.var 13)
 (.cond (.bin .neq (.var 2) (.const (.int .u64 0)))
 (.seq
 (.set 3 (.bin .quo (.var 1) (.var 2)))
 .ret)
 .skip)
 (.seq
 (.set 14 (.bin .eql (.var 4) (.const (.int .i64 9))))
 (.cond (.var 14)
 (.seq
 (.cond (.bin .neq (.var 2) (.const (.int .u64 0)))
 (.seq
 (.set 3 (.bin .rem (.var 1) (.var 2)))
 .ret)
 .skip)
 (.seq
 (.set 3 (.var 1))
 .ret))
 .skip))))))))))))))))))))))
 (.seq
 (.set 3 (.const (.int .u64 0)))
 .ret))),
  [(.var 3)]⟩
theorem okx_244 : FnOk Tryz.prog 3 365 244 xf244 := fnOk_of Tryz.func244 (np := 3) (V := [0, 1, 2, 6, 7, 8, 13, 18, 23, 28, 33, 37, 42, 45, 52]) (ks := []) (by kernel_rfl)

/- slices.insertionSortOrdered[int32] -/
def xf267 : XF := ⟨3, [0, 1, 2, 6, 7, 29, 46],
  (.seq
 (.set 3 (.bin .add (.var 1) (.const (.int .i64 1))))
 (.block 0
 (.loop [0, 1, 2, 3]
 (.seq
 (.cond (.bin .lss (.var 3) (.var 2))
 .skip
 (.exit 0))
 (.seq
 (.block 1
 (.seq
 (.set 4 (.var 3))
 (.block 2
 (.loop [0, 1, 2, 3, 4]
 (.seq
 (.seq
 (.seq
 .skip
 (.seq
 (.chk [(.pick (.bin .gtr (.var 4) (.var 1)) (.ld none (.ixSl 1 (.var 0) (.bin .sub (.var 4) (.const (.int .i64 1))))) (.const (.bool false))), (.pick (.bin .gtr (.var 4) (.var 1)) (.ld none (.ixSl 1 (.var 0) (.var 4))) (.const (.bool false)))])
 (.cond (.pick (.bin .gtr (.var 4) (.var 1)) (.const (.bool true)) (.const (.bool false)))
 (.call (some 5) 273 [(.ld none (.ixSl 1 (.var 0) (.var 4))), (.ld none (.ixSl 1 (.var 0) (.bin .sub (.var 4) (.const (.int .i64 1)))))] [])
 (.clr [5]))))
 (.cond (.pick (.bin .gtr (.var 4) (.var 1)) (.var 5) (.const (.bool false)))
 .skip
 (.exit 2)))
 (.seq
 (.block 3
 (.seq
 .skip
 (.seq
 (.chk [(.ld none (.ixSl 1 (.var 0) (.bin .sub (.var 4) (.const (.int .i64 1)))))])
 (.seq
 (.set 6 (.ld none (.ixSl 1 (.var 0) (.var 4))))
 (.seq
 (.store 1 (.ixSl 1 (.var 0) (.var 4)) (.ld none (.ixSl 1 (.var 0) (.bin .sub (.var 4) (.const (.int .i64 1))))) [])
 (.store 1 (.ixSl 1 (.var 0) (.bin .sub (.var 4) (.const (.int .i64 1)))) (.var 6) []))))))
 (.set 4 (.bin .sub (.var 4) (.const (.int .i64 1))))))))))
 (.set 3 (.bin .add (.var 3) (.const (.int .i64 1))))))))),
  []⟩
theorem okx_267 : FnOk Tryz.prog 3 365 267 xf267 := fnOk_of Tryz.func267 (np := 3) (V := [0, 1, 2, 6, 7, 29, 46]) (ks := [[0, 1, 2, 3], [0, 1, 2, 3, 4]]) (by kernel_rfl)

/- tipstaff/shape.plain -/
def xf276 : XF := ⟨2, [0, 1, 4, 2, 3, 5, 14, 33],
  (.seq
 (.seq
 (.new (some 3) 46 (.var 0))
 (.seq
 (.new (some 4) 393 (.var 1))
 (.set 2 (.const (.bool false)))))
 (.seq
 (.block 0
 (.seq
 (.set 5 (.pick (.bin .geq (.ld none (.offp 1 (.var 3))) (.const (.int .u8 11))) (.const (.bool true)) (.bin .geq (.ld none (.offp 2 (.var 3))) (.const (.int .u8 11)))))
 (.cond (.var 5)
 .skip
 (.seq
 (.set 6 (.pick (.pick (.un .not (.ld none (.offp 0 (.var 4)))) (.bin .neq (.ld none (.offp 1 (.var 3))) (.const (.int .u8 0))) (.const (.bool false))) (.const (.bool true)) (.pick (.un .not (.ld none (.offp 1 (.var 4)))) (.bin .neq (.ld none (.offp 2 (.var 3))) (.const (.int .u8 0))) (.const (.bool false)))))
 (.cond (.var 6)
 .skip
 (.seq
 (.set 7 (.pick (.pick (.un .not (.ld none (.offp 2 (.var 4)))) (.bin .neq (.ld none (.offp 3 (.var 3))) (.const (.int .i16 0))) (.const (.bool false))) (.const (.bool true)) (.pick (.un .not (.ld none (.offp 3 (.var 4)))) (.bin .neq (.ld none (.offp 4 (.var 3))) (.const (.int .i32 0))) (.const (.bool false)))))
 (.cond (.var 7)
 .skip
 (.seq
 (.set 2 (.const (.bool true)))
 .ret))))))))
 (.seq
 (.set 2 (.const (.bool false)))
 .ret))),
  [(.var 2)]⟩
theorem okx_276 : FnOk Tryz.prog 3 365 276 xf276 := fnOk_of Tryz.func276 (np := 2) (V := [0, 1, 4, 2, 3, 5, 14, 33]) (ks := []) (by kernel_rfl)

/- tipstaff/shape.named -/
def xf277 : XF := ⟨1, [0, 2, 1, 4, 5, 18, 27, 30, 34, 37, 40],
  (.seq
 (.seq
 (.new (some 2) 287 (.var 0))
 (.new (some 1) 393 (.const (.agg (Array.replicate 4 (.bool false))))))
 (.seq
 (.seq
 (.set 3 (.ld none (.offp 0 (.var 2))))
 (.block 0
 (.seq
 (.set 4 (.bin .eql (.var 3) (.const (.int .i64 1))))
 (.cond (.var 4)
 (.seq
 (.seq
 (.chk [(.upd 3 1 (.upd 2 1 (.upd 1 1 (.upd 0 1 (.const (.agg (Array.replicate 4 (.bool false)))) (.const (.bool true))) (.ld none (.offp 4 (.var 2)))) (.const (.bool false))) (.pick (.un .not (.ld none (.offp 4 (.var 2)))) (.bin .neq (.ld none (.offp 1 (.var 2))) (.const (.int .i64 8))) (.const (.bool false))))])
 (.store 4 (.var 1) (.upd 3 1 (.upd 2 1 (.upd 1 1 (.upd 0 1 (.const (.agg (Array.replicate 4 (.bool false)))) (.const (.bool true))) (.ld none (.offp 4 (.var 2)))) (.const (.bool false))) (.pick (.un .not (.ld none (.offp 4 (.var 2)))) (.bin .neq (.ld none (.offp 1 (.var 2))) (.const (.int .i64 8))) (.const (.bool false)))) []))
 .ret)
 (.seq
 (.seq
 (.set 5 (.bin .eql (.var 3) (.const (.int .i64 2))))
 (.cond (.var 5)
 .skip
 (.set 5 (.bin .eql (.var 3) (.const (.int .i64 7))))))
 (.cond (.var 5)
 (.seq
 (.seq
 (.chk [(.upd 3 1 (.upd 2 1 (.upd 1 1 (.upd 0 1 (.const (.agg (Array.replicate 4 (.bool false)))) (.const (.bool true))) (.ld none (.offp 4 (.var 2)))) (.const (.bool true))) (.un .not (.ld none (.offp 4 (.var 2)))))])
 (.store 4 (.var 1) (.upd 3 1 (.upd 2 1 (.upd 1 1 (.upd 0 1 (.const (.agg (Array.replicate 4 (.bool false)))) (.const (.bool true))) (.ld none (.offp 4 (.var 2)))) (.const (.bool true))) (.un .not (.ld none (.offp 4 (.var 2))))) []))
 .ret)
 (.seq
 (.set 6 (.bin .eql (.var 3) (.const (.int .i64 3))))
 (.cond (.var 6)
 (.seq
 (.seq
 (.chk [(.upd 2 1 (.const (.agg (Array.replicate 4 (.bool false)))) (.const (.bool true)))])
 (.store 4 (.var 1) (.upd 2 1 (.const (.agg (Array.replicate 4 (.bool false)))) (.const (.bool true))) []))
 .ret)
 (.seq
 (.seq
 (.set 7 (.bin .eql (.var 3) (.const (.int .i64 4))))
 (.cond (.var 7)
 .skip
 (.set 7 (.bin .eql (.var 3) (.const (.int .i64 10))))))
 (.cond (.var 7)
 (.seq
 (.seq
 (.chk [(.upd 3 1 (.const (.agg (Array.replicate 4 (.bool false)))) (.const (.bool true)))])
 (.store 4 (.var 1) (.upd 3 1 (.const (.agg (Array.replicate 4 (.bool false)))) (.const (.bool true))) []))
 .ret)
 (.seq
 (.set 8 (.bin .eql (.var 3) (.const (.int .i64 6))))
 (.cond (.var 8)
 (.seq
 (.seq
 (.chk [(.upd 3 1 (.upd 2 1 (.upd 1 1 (.upd 0 1 (.const (.agg (Array.replicate 4 (.bool false)))) (.const (.bool true))) (.const (.bool true))) (.const (.bool true))) (.const (.bool false)))])
 (.store 4 (.var 1) (.upd 3 1 (.upd 2 1 (.upd 1 1 (.upd 0 1 (.const (.agg (Array.replicate 4 (.bool false)))) (.const (.bool true))) (.const (.bool true))) (.const (.bool true))) (.const (.bool false))) []))
 .ret)
 (.seq
 (.set 9 (.bin .eql (.var 3) (.const (.int .i64 8))))
 (.cond (.var 9)
 (.seq
 (.seq
 (.chk [(.upd 3 1 (.upd 2 1 (.upd 1 1 (.upd 0 1 (.const (.agg (Array.replicate 4 (.bool false)))) (.const (.bool true))) (.const (.bool true))) (.const (.bool true))) (.const (.bool true)))])
 (.store 4 (.var 1) (.upd 3 1 (.upd 2 1 (.upd 1 1 (.upd 0 1 (.const (.agg (Array.replicate 4 (.bool false)))) (.const (.bool true))) (.const (.bool true))) (.const (.bool true))) (.const (.bool true))) []))
 .ret)
 (.seq
 (.set 10 (.bin .eql (.var 3) (.const (.int .i64 9))))
 (.cond (.var 10)
 (.seq
 (.seq
 (.chk [(.upd 3 1 (.upd 2 1 (.upd 1 1 (.upd 0 1 (.const (.agg (Array.replicate 4 (.bool false)))) (.const (.bool true))) (.const (.bool true))) (.const (.bool false))) (.const (.bool true)))])
 (.store 4 (.var 1) (.upd 3 1 (.upd 2 1 (.upd 1 1 (.upd 0 1 (.const (.agg (Array.replicate 4 (.bool false)))) (.const (.bool true))) (.const (.bool true))) (.const (.bool false))) (.const (.bool true))) []))
 .ret)
 .skip))))))))))))))))
 (.seq
 (.store 4 (.var 1) (.const (.agg (Array.replicate 4 (.bool false)))) [])
 .ret))),
  [(.ld (some 4) (.var 1))]⟩
theorem okx_277 : FnOk Tryz.prog 3 365 277 xf277 := fnOk_of Tryz.func277 (np := 1) (V := [0, 2, 1, 4, 5, 18, 27, 30, 34, 37, 40]) (ks := []) (by kernel_rfl)

/- tipstaff/shape.writes -/
def xf278 : XF := ⟨1, [0, 2],
  (.seq
 (.set 1 (.const (.bool false)))
 (.seq
 (.set 1 (.pick (.pick (.bin .eql (.var 0) (.const (.int .i64 1))) (.const (.bool true)) (.bin .eql (.var 0) (.const (.int .i64 6)))) (.const (.bool true)) (.bin .eql (.var 0) (.const (.int .i64 9)))))
 .ret)),
  [(.var 1)]⟩
theorem okx_278 : FnOk Tryz.prog 3 365 278 xf278 := fnOk_of Tryz.func278 (np := 1) (V := [0, 2]) (ks := []) (by kernel_rfl)

/- tipstaff/shape.constant -/
def xf279 : XF := ⟨2, [0, 1, 4, 2, 9, 10, 15, 5],
  (.seq
 (.seq
 (.new (some 3) 287 (.var 0))
 (.set 2 (.const (.bool false))))
 (.seq
 (.cond (.ld none (.offp 4 (.var 3)))
 (.seq
 (.set 2 (.const (.bool true)))
 .ret)
 .skip)
 (.seq
 (.seq
 (.set 4 (.ld none (.offp 1 (.var 3))))
 (.block 0
 (.seq
 (.seq
 (.set 5 (.bin .eql (.var 4) (.const (.int .i64 3))))
 (.cond (.var 5)
 .skip
 (.set 5 (.bin .eql (.var 4) (.const (.int .i64 9))))))
 (.cond (.var 5)
 (.seq
 (.set 2 (.bin .neq (.var 1) (.const (.int .i32 0))))
 .ret)
 (.seq
 (.seq
 (.set 6 (.bin .eql (.var 4) (.const (.int .i64 6))))
 (.cond (.var 6)
 .skip
 (.seq
 (.set 6 (.bin .eql (.var 4) (.const (.int .i64 7))))
 (.cond (.var 6)
 .skip
 (.set 6 (.bin .eql (.var 4) (.const (.int .i64 12))))))))
 (.cond (.var 6)
 (.seq
 (.set 7 (.const (.int .i32 31)))
 (.seq
 (.cond (.ld none (.offp 3 (.var 3)))
 (.set 7 (.const (.int .i32 63)))
 .skip)
 (.seq
 (.set 2 (.pick (.bin .geq (.var 1) (.const (.int .i32 0))) (.bin .leq (.var 1) (.var 7)) (.const (.bool false))))
 .ret)))
 .skip))))))
 (.seq
 (.set 2 (.const (.bool true)))
 .ret)))),
  [(.var 2)]⟩
theorem okx_279 : FnOk Tryz.prog 3 365 279 xf279 := fnOk_of Tryz.func279 (np := 2) (V := [0, 1, 4, 2, 9, 10, 15, 5]) (ks := []) (by kernel_rfl)

/- (*tipstaff/cfg.walk).visit -/
def xf283 : XF := ⟨2, [0, 1, 17, 19, 18, 5, 29, 30, 35],
  (.seq
 (.store 1 (.ixSl 1 (.ld none (.offp 1 (.nn (.var 0)))) (.var 1)) (.const (.int .i64 1)) [])
 (.seq
 (.seq
 (.seq
 (.call (some 2) 319 [(.ld none (.offp 0 (.nn (.var 0)))), (.var 1)] [])
 (.seq
 (.set 4 (.len false (.var 2)))
 (.set 3 (.const (.int .i64 0)))))
 (.block 0
 (.loop [0, 1, 2, 3, 4]
 (.seq
 (.cond (.bin .lss (.var 3) (.var 4))
 .skip
 (.exit 0))
 (.seq
 (.block 1
 (.seq
 (.set 5 (.ld none (.ixSl 1 (.var 2) (.var 3))))
 (.seq
 (.set 6 (.ld none (.ixSl 1 (.ld none (.offp 1 (.nn (.var 0)))) (.var 5))))
 (.block 2
 (.seq
 (.set 7 (.bin .eql (.var 6) (.const (.int .i64 1))))
 (.cond (.var 7)
 (.store 1 (.offp 2 (.nn (.var 0))) (.const (.bool true)) [])
 (.seq
 (.set 8 (.bin .eql (.var 6) (.const (.int .i64 0))))
 (.cond (.var 8)
 (.call none 283 [(.var 0), (.var 5)] [])
 .skip))))))))
 (.set 3 (.bin .add (.var 3) (.const (.int .i64 1)))))))))
 (.store 1 (.ixSl 1 (.ld none (.offp 1 (.nn (.var 0)))) (.var 1)) (.const (.int .i64 2)) []))),
  []⟩
theorem okx_283 : FnOk Tryz.prog 3 365 283 xf283 := fnOk_of Tryz.func283 (np := 2) (V := [0, 1, 17, 19, 18, 5, 29, 30, 35]) (ks := [[0, 1, 2, 3, 4]]) (by kernel_rfl)

/- slices.IndexFunc[[]tipstaff/absreg.State,tipstaff/absreg.State] -/
def xf284 : XF := ⟨2, [0, 1, 4, 8, 7, 5, 16],
  (.seq
 (.set 2 (.const (.int .i64 0)))
 (.seq
 (.seq
 (.seq
 (.set 4 (.len false (.var 0)))
 (.set 3 (.const (.int .i64 0))))
 (.block 0
 (.loop [0, 1, 3, 4]
 (.seq
 (.cond (.bin .lss (.var 3) (.var 4))
 .skip
 (.exit 0))
 (.seq
 (.block 1
 (.seq
 (.set 5 (.var 3))
 (.seq
 (.dyn (some 6) (.var 1) [(.ld (some 273) (.ixSl 273 (.var 0) (.var 5)))] [])
 (.cond (.var 6)
 (.seq
 (.set 2 (.var 5))
 .ret)
 .skip))))
 (.set 3 (.bin .add (.var 3) (.const (.int .i64 1)))))))))
 (.seq
 (.set 2 (.const (.int .i64 (-1))))
 .ret))),
  [(.var 2)]⟩
theorem okx_284 : FnOk Tryz.prog 3 365 284 xf284 := fnOk_of Tryz.func284 (np := 2) (V := [0, 1, 4, 8, 7, 5, 16]) (ks := [[0, 1, 3, 4]]) (by kernel_rfl)

/- tipstaff/verify.known -/
def xf286 : XF := ⟨1, [0, 2, 4],
  (.seq
 (.new (some 1) 257 (.const zA9))
 (.seq
 (.seq
 (.call (some 2) 322 [(.var 0)] [])
 (.seq
 (.chk [(.upd 1 6 (.upd 0 1 (.const zA9) (.const (.int .i64 1))) (.var 2))])
 (.store 11 (.var 1) (.upd 1 6 (.upd 0 1 (.const zA9) (.const (.int .i64 1))) (.var 2)) [])))
 .ret)),
  [(.ld (some 11) (.var 1))]⟩
theorem okx_286 : FnOk Tryz.prog 3 365 286 xf286 := fnOk_of Tryz.func286 (np := 1) (V := [0, 2, 4]) (ks := []) (by kernel_rfl)

/- tipstaff/scalar.Do -/
def xf287 : XF := ⟨4, [0, 1, 2, 3, 8, 6, 7, 10, 13, 21, 22, 27, 30, 31, 32, 33, 34],
  (.seq
 (.seq
 (.new (some 5) 255 (.var 2))
 (.seq
 (.new (some 6) 255 (.var 3))
 (.new (some 4) 255 (.const zA5))))
 (.seq
 (.seq
 (.seq
 (.call (some 7) 323 [(.ld (some 6) (.var 5))] [])
 (.seq
 (.chk [(.pick (.var 7) (.ld (some 6) (.var 6)) (.const (.bool false)))])
 (.cond (.pick (.var 7) (.const (.bool true)) (.const (.bool false)))
 (.call (some 8) 323 [(.ld (some 6) (.var 6))] [])
 (.clr [8]))))
 (.cond (.pick (.var 7) (.var 8) (.const (.bool false)))
 (.seq
 (.seq
 (.call (some 9) 197 [(.var 0), (.var 1), (.ld none (.offp 2 (.var 5))), (.ld none (.offp 2 (.var 6)))] [])
 (.seq
 (.call (some 10) 322 [(.var 9)] [])
 (.store 6 (.var 4) (.var 10) [])))
 .ret)
 .skip))
 (.seq
 (.cond (.var 1)
 (.seq
 (.seq
 (.call (some 11) 324 [(.var 0), (.const (.bool true)), (.ld (some 6) (.var 5)), (.ld (some 6) (.var 6))] [])
 (.store 6 (.var 4) (.var 11) []))
 .ret)
 .skip)
 (.seq
 (.seq
 .skip
 (.seq
 (.chk [(.ld (some 6) (.var 5)), (.var 0)])
 (.seq
 (.set 13 (.ld (some 6) (.var 6)))
 (.seq
 (.call (some 12) 325 [(.ld (some 6) (.var 5)), (.const (.int .i64 4))] [(.ld (some 6) (.var 6))])
 (.seq
 (.call (some 14) 325 [(.var 13), (.const (.int .i64 4))] [])
 (.seq
 (.call (some 15) 324 [(.var 0), (.const (.bool false)), (.var 12), (.var 14)] [])
 (.seq
 (.call (some 16) 325 [(.var 15), (.const (.int .i64 4))] [])
 (.store 6 (.var 4) (.var 16) []))))))))
 .ret)))),
  [(.ld (some 6) (.var 4))]⟩
theorem okx_287 : FnOk Tryz.prog 3 365 287 xf287 := fnOk_of Tryz.func287 (np := 4) (V := [0, 1, 2, 3, 8, 6, 7, 10, 13, 21, 22, 27, 30, 31, 32, 33, 34]) (ks := []) (by kernel_rfl)

/- (tipstaff/verify.way).set -/
def xf288 : XF := ⟨4, [0, 1, 2, 3, 8, 4, 6, 20],
  (.seq
 (.seq
 (.new (some 5) 265 (.var 0))
 (.seq
 (.new (some 6) 257 (.var 2))
 (.set 4 (.const (.slice none 0 0)))))
 (.seq
 (.store 11 (.ixArr 11 11 (.offp 0 (.offp 1 (.var 5))) (.var 1)) (.ld (some 11) (.var 6)) [])
 (.seq
 (.store 1 (.offp 0 (.var 5)) (.bin .add (.ld none (.offp 0 (.var 5))) (.var 3)) [])
 (.seq
 (.seq
 (.row (some 7) 265 1 (.upd 0 274 (.const zA18) (.ld (some 274) (.var 5))))
 (.set 4 (.var 7)))
 .ret)))),
  [(.var 4)]⟩
theorem okx_288 : FnOk Tryz.prog 3 365 288 xf288 := fnOk_of Tryz.func288 (np := 4) (V := [0, 1, 2, 3, 8, 4, 6, 20]) (ks := []) (by kernel_rfl)

/- tipstaff/cfg.Next -/
def xf319 : XF := ⟨2, [0, 1, 4, 2, 18, 20],
  (.seq
 (.seq
 (.new (some 3) 37 (.var 0))
 (.set 2 (.const (.slice none 0 0))))
 (.seq
 (.cond (.pick (.bin .lss (.var 1) (.const (.int .i64 0))) (.const (.bool true)) (.bin .geq (.var 1) (.len false (.ld none (.var 3)))))
 (.seq
 (.set 2 (.const (.slice none 0 0)))
 .ret)
 .skip)
 (.seq
 (.seq
 (.call (some 4) 343 [(.var 1), (.ld (some 5) (.ixSl 5 (.ld none (.var 3)) (.var 1)))] [])
 (.seq
 (.chk [(.cap1 (.const (.func (.func 344) #[] #[])) (.var 3))])
 (.seq
 (.call (some 5) 342 [(.var 4), (.cap1 (.const (.func (.func 344) #[] #[])) (.var 3))] [])
 (.set 2 (.var 5)))))
 .ret))),
  [(.var 2)]⟩
theorem okx_319 : FnOk Tryz.prog 3 365 319 xf319 := fnOk_of Tryz.func319 (np := 2) (V := [0, 1, 4, 2, 18, 20]) (ks := []) (by kernel_rfl)

/- tipstaff/scalar.Const -/
def xf322 : XF := ⟨1, [0, 2, 4],
  (.seq
 (.new (some 1) 255 (.const zA5))
 (.seq
 (.seq
 (.call (some 2) 346 [(.var 0)] [])
 (.seq
 (.chk [(.upd 5 1 (.upd 4 1 (.upd 3 1 (.upd 2 1 (.upd 0 2 (.const zA5) (.var 2)) (.var 0)) (.var 0)) (.conv .i64 (.var 0))) (.conv .i64 (.var 0)))])
 (.store 6 (.var 1) (.upd 5 1 (.upd 4 1 (.upd 3 1 (.upd 2 1 (.upd 0 2 (.const zA5) (.var 2)) (.var 0)) (.var 0)) (.conv .i64 (.var 0))) (.conv .i64 (.var 0))) [])))
 .ret)),
  [(.ld (some 6) (.var 1))]⟩
theorem okx_322 : FnOk Tryz.prog 3 365 322 xf322 := fnOk_of Tryz.func322 (np := 1) (V := [0, 2, 4]) (ks := []) (by kernel_rfl)

/- tipstaff/scalar.alone -/
def xf323 : XF := ⟨1, [0, 2, 1, 25, 21],
  (.seq
 (.seq
 (.new (some 2) 255 (.var 0))
 (.set 1 (.const (.bool false))))
 (.seq
 (.seq
 (.set 4 (.pick (.pick (.bin .eql (.ld none (.offp 1 (.offp 0 (.var 2)))) (.const (.int .u64 0))) (.bin .eql (.ld none (.offp 2 (.var 2))) (.ld none (.offp 3 (.var 2)))) (.const (.bool false))) (.bin .eql (.ld none (.offp 4 (.var 2))) (.ld none (.offp 5 (.var 2)))) (.const (.bool false))))
 (.seq
 (.chk [(.pick (.var 4) (.ld none (.offp 2 (.var 2))) (.const (.bool false))), (.pick (.var 4) (.ld (some 6) (.var 2)) (.const (.bool false)))])
 (.seq
 (.cond (.pick (.var 4) (.const (.bool true)) (.const (.bool false)))
 (.call (some 3) 347 [(.ld (some 6) (.var 2)), (.ld none (.offp 2 (.var 2)))] [])
 (.clr [3]))
 (.set 1 (.pick (.var 4) (.var 3) (.const (.bool false)))))))
 .ret)),
  [(.var 1)]⟩
theorem okx_323 : FnOk Tryz.prog 3 365 323 xf323 := fnOk_of Tryz.func323 (np := 1) (V := [0, 2, 1, 25, 21]) (ks := []) (by kernel_rfl)

/- slices.DeleteFunc[[]int,int] -/
def xf342 : XF := ⟨2, [0, 1, 4, 10, 5, 6, 7, 28],
  (.seq
 (.set 2 (.const (.slice none 0 0)))
 (.seq
 (.seq
 (.call (some 3) 361 [(.var 0), (.var 1)] [])
 (.set 4 (.var 3)))
 (.seq
 (.cond (.bin .eql (.var 4) (.const (.int .i64 (-1))))
 (.seq
 (.set 2 (.var 0))
 .ret)
 .skip)
 (.seq
 (.seq
 (.set 5 (.bin .add (.var 4) (.const (.int .i64 1))))
 (.block 0
 (.loop [0, 1, 4, 5]
 (.seq
 (.cond (.bin .lss (.var 5) (.len false (.var 0)))
 .skip
 (.exit 0))
 (.seq
 (.block 1
 (.seq
 (.set 6 (.ld none (.ixSl 1 (.var 0) (.var 5))))
 (.seq
 (.dyn (some 7) (.var 1) [(.var 6)] [])
 (.cond (.un .not (.var 7))
 (.seq
 (.store 1 (.ixSl 1 (.var 0) (.var 4)) (.var 6) [])
 (.set 4 (.bin .add (.var 4) (.const (.int .i64 1)))))
 .skip))))
 (.set 5 (.bin .add (.var 5) (.const (.int .i64 1)))))))))
 (.seq
 (.clear [(.int .i64 0)] (.slSl 1 (.var 0) (.var 4) (.len false (.var 0))) [])
 (.seq
 (.set 2 (.slSl 1 (.var 0) (.const (.int .i64 0)) (.var 4)))
 .ret)))))),
  [(.var 2)]⟩
theorem okx_342 : FnOk Tryz.prog 3 365 342 xf342 := fnOk_of Tryz.func342 (np := 2) (V := [0, 1, 4, 10, 5, 6, 7, 28]) (ks := [[0, 1, 4, 5]]) (by kernel_rfl)

/- tipstaff/cfg.behind -/
def xf343 : XF := ⟨2, [0, 1, 4, 3, 7, 8, 12, 16, 17, 18, 24, 25, 5, 29, 30, 34, 37],
  (.seq
 (.seq
 (.new (some 3) 46 (.var 1))
 (.set 2 (.const (.slice none 0 0))))
 (.seq
 (.seq
 (.call (some 4) 223 [(.ld (some 5) (.var 3))] [])
 (.block 0
 (.seq
 (.seq
 (.set 5 (.bin .eql (.var 4) (.const (.int .i64 0))))
 (.cond (.var 5)
 .skip
 (.seq
 (.set 5 (.bin .eql (.var 4) (.const (.int .i64 5))))
 (.cond (.var 5)
 .skip
 (.set 5 (.bin .eql (.var 4) (.const (.int .i64 10))))))))
 (.cond (.var 5)
 (.seq
 (.set 2 (.const (.slice none 0 0)))
 .ret)
 (.seq
 (.set 6 (.bin .eql (.var 4) (.const (.int .i64 3))))
 (.cond (.var 6)
 (.seq
 (.seq
 (.call (some 7) 163 [(.var 0), (.ld (some 5) (.var 3))] [])
 (.seq
 (.row (some 8) 3 1 (.upd 0 1 (.const (.agg #[(.int .i64 0)])) (.var 7)))
 (.set 2 (.var 8))))
 .ret)
 (.seq
 (.set 9 (.bin .eql (.var 4) (.const (.int .i64 2))))
 (.cond (.var 9)
 (.seq
 (.seq
 (.chk [(.bin .add (.var 0) (.const (.int .i64 1)))])
 (.seq
 (.call (some 10) 163 [(.var 0), (.ld (some 5) (.var 3))] [])
 (.seq
 (.row (some 11) 3 2 (.upd 1 1 (.upd 0 1 (.const (.agg #[(.int .i64 0), (.int .i64 0)])) (.bin .add (.var 0) (.const (.int .i64 1)))) (.var 10)))
 (.set 12 (.var 11)))))
 (.seq
 (.call none 127 [(.var 12)] [])
 (.seq
 (.seq
 (.call (some 13) 362 [(.var 12)] [])
 (.set 2 (.var 13)))
 .ret)))
 (.seq
 (.set 14 (.bin .eql (.var 4) (.const (.int .i64 9))))
 (.cond (.var 14)
 (.seq
 (.seq
 (.row (some 15) 3 1 (.upd 0 1 (.const (.agg #[(.int .i64 0)])) (.bin .add (.var 0) (.const (.int .i64 2)))))
 (.set 2 (.var 15)))
 .ret)
 .skip))))))))))
 (.seq
 (.seq
 (.row (some 16) 3 1 (.upd 0 1 (.const (.agg #[(.int .i64 0)])) (.bin .add (.var 0) (.const (.int .i64 1)))))
 (.set 2 (.var 16)))
 .ret))),
  [(.var 2)]⟩
theorem okx_343 : FnOk Tryz.prog 3 365 343 xf343 := fnOk_of Tryz.func343 (np := 2) (V := [0, 1, 4, 3, 7, 8, 12, 16, 17, 18, 24, 25, 5, 29, 30, 34, 37]) (ks := []) (by kernel_rfl)

/- tipstaff/cfg.Next$1 -/
def xf344 : XF := ⟨2, [0, 1, 3],
  (.seq
 (.set 2 (.const (.bool false)))
 (.seq
 (.set 2 (.pick (.bin .lss (.var 0) (.const (.int .i64 0))) (.const (.bool true)) (.bin .geq (.var 0) (.len false (.ld none (.var 1))))))
 .ret)),
  [(.var 2)]⟩
theorem okx_344 : FnOk Tryz.prog 3 365 344 xf344 := fnOk_of Tryz.func344 (np := 2) (V := [0, 1, 3]) (ks := []) (by kernel_rfl)

/- tipstaff/tnum.Const -/
def xf346 : XF := ⟨1, [0, 2],
  (.seq
 (.new (some 1) 253 (.const (.agg #[(.int .u64 0), (.int .u64 0)])))
 (.seq
 (.seq
 (.chk [(.upd 0 1 (.const (.agg #[(.int .u64 0), (.int .u64 0)])) (.var 0))])
 (.store 2 (.var 1) (.upd 0 1 (.const (.agg #[(.int .u64 0), (.int .u64 0)])) (.var 0)) []))
 .ret)),
  [(.ld (some 2) (.var 1))]⟩
theorem okx_346 : FnOk Tryz.prog 3 365 346 xf346 := fnOk_of Tryz.func346 (np := 1) (V := [0, 2]) (ks := []) (by kernel_rfl)

/- tipstaff/scalar.Has -/
def xf347 : XF := ⟨2, [0, 1, 4, 2, 8],
  (.seq
 (.seq
 (.new (some 3) 255 (.var 0))
 (.set 2 (.const (.bool false))))
 (.seq
 (.seq
 (.call (some 4) 363 [(.ld (some 2) (.offp 0 (.var 3))), (.var 1)] [])
 (.set 2 (.pick (.pick (.pick (.pick (.var 4) (.bin .leq (.ld none (.offp 2 (.var 3))) (.var 1)) (.const (.bool false))) (.bin .leq (.var 1) (.ld none (.offp 3 (.var 3)))) (.const (.bool false))) (.bin .leq (.ld none (.offp 4 (.var 3))) (.conv .i64 (.var 1))) (.const (.bool false))) (.bin .leq (.conv .i64 (.var 1)) (.ld none (.offp 5 (.var 3)))) (.const (.bool false)))))
 .ret)),
  [(.var 2)]⟩
theorem okx_347 : FnOk Tryz.prog 3 365 347 xf347 := fnOk_of Tryz.func347 (np := 2) (V := [0, 1, 4, 2, 8]) (ks := []) (by kernel_rfl)

/- slices.IndexFunc[[]int,int] -/
def xf361 : XF := ⟨2, [0, 1, 4, 8, 7, 5, 16],
  (.seq
 (.set 2 (.const (.int .i64 0)))
 (.seq
 (.seq
 (.seq
 (.set 4 (.len false (.var 0)))
 (.set 3 (.const (.int .i64 0))))
 (.block 0
 (.loop [0, 1, 3, 4]
 (.seq
 (.cond (.bin .lss (.var 3) (.var 4))
 .skip
 (.exit 0))
 (.seq
 (.block 1
 (.seq
 (.set 5 (.var 3))
 (.seq
 (.dyn (some 6) (.var 1) [(.ld none (.ixSl 1 (.var 0) (.var 5)))] [])
 (.cond (.var 6)
 (.seq
 (.set 2 (.var 5))
 .ret)
 .skip))))
 (.set 3 (.bin .add (.var 3) (.const (.int .i64 1)))))))))
 (.seq
 (.set 2 (.const (.int .i64 (-1))))
 .ret))),
  [(.var 2)]⟩
theorem okx_361 : FnOk Tryz.prog 3 365 361 xf361 := fnOk_of Tryz.func361 (np := 2) (V := [0, 1, 4, 8, 7, 5, 16]) (ks := [[0, 1, 3, 4]]) (by kernel_rfl)

/- tipstaff/tnum.Has -/
def xf363 : XF := ⟨2, [0, 1, 4, 2],
  (.seq
 (.seq
 (.new (some 3) 253 (.var 0))
 (.set 2 (.const (.bool false))))
 (.seq
 (.set 2 (.bin .eql (.bin .andNot (.var 1) (.ld none (.offp 1 (.var 3)))) (.ld none (.offp 0 (.var 3)))))
 .ret)),
  [(.var 2)]⟩
theorem okx_363 : FnOk Tryz.prog 3 365 363 xf363 := fnOk_of Tryz.func363 (np := 2) (V := [0, 1, 4, 2]) (ks := []) (by kernel_rfl)
end Go.Proofs.YtipfkfecelkhnaaGreatDoor
