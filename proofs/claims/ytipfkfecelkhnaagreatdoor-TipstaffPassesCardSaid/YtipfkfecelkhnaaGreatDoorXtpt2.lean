/- The interpreter's functions, part 2: made by program (geny.py). -/
import Derived.Test.YtipfkfecelkhnaaGreatDoorXtpz
import Derived.Test.YtipfkfecelkhnaaGreatDoorProg
set_option maxRecDepth 100000
set_option linter.unusedVariables false
namespace Go.Proofs.YtipfkfecelkhnaaGreatDoor
open Go.Eng
/- slices.Clone[[]tipstaff/api.Insn,tipstaff/api.Insn] -/
def xf147 : XF := ⟨1, [0, 2, 5, 7],
  (.seq
 (.set 1 (.const (.slice none 0 0)))
 (.seq
 (.cond (.isnil 1 false (.var 0))
 (.seq
 (.set 1 (.const (.slice none 0 0)))
 .ret)
 .skip)
 (.seq
 (.seq
 (.row (some 2) 46 0 (.const (.agg #[])))
 (.seq
 (.app (some 3) 46 5 (.var 2) (.var 0) [])
 (.set 1 (.var 3))))
 .ret))),
  [(.var 1)]⟩
theorem okx_147 : FnOk Tryz.prog 3 365 147 xf147 := fnOk_of Tryz.func147 (np := 1) (V := [0, 2, 5, 7]) (ks := []) (by kernel_rfl)

/- tipstaff/canon.ofMap -/
def xf148 : XF := ⟨1, [0, 2, 1, 5],
  (.seq
 (.seq
 (.new (some 2) 46 (.var 0))
 (.set 1 (.const (.bool false))))
 (.seq
 (.seq
 (.call (some 3) 160 [(.ld none (.offp 0 (.var 2)))] [])
 (.set 1 (.pick (.bin .eql (.part none 0 (.var 3)) (.const (.int .i64 9))) (.bin .eql (.ld none (.offp 2 (.var 2))) (.const (.int .u8 1))) (.const (.bool false)))))
 .ret)),
  [(.var 1)]⟩
theorem okx_148 : FnOk Tryz.prog 3 365 148 xf148 := fnOk_of Tryz.func148 (np := 1) (V := [0, 2, 1, 5]) (ks := []) (by kernel_rfl)

/- tipstaff/digest.Joined -/
def xf154 : XF := ⟨1, [0, 2, 3, 8, 7, 6, 5, 16, 17, 20, 23],
  (.seq
 (.new (some 1) 40 (.const (.agg (Array.replicate 32 (.int .u8 0)))))
 (.seq
 (.set 2 (.const (.slice none 0 0)))
 (.seq
 (.seq
 (.seq
 (.set 5 (.var 0))
 (.seq
 (.set 4 (.len false (.var 5)))
 (.set 3 (.const (.int .i64 0)))))
 (.block 0
 (.loop [1, 2, 3, 4, 5]
 (.seq
 (.cond (.bin .lss (.var 3) (.var 4))
 .skip
 (.exit 0))
 (.seq
 (.block 1
 (.seq
 (.set 6 (.ld none (.ixSl 1 (.var 5) (.var 3))))
 (.seq
 (.seq
 (.chk [(.var 2)])
 (.seq
 (.call (some 7) 72 [(.conv .u64 (.len false (.var 6)))] [])
 (.seq
 (.app (some 8) 5 1 (.var 2) (.var 7) [])
 (.set 2 (.var 8)))))
 (.seq
 (.app (some 9) 5 1 (.var 2) (.var 6) [])
 (.set 2 (.var 9))))))
 (.set 3 (.bin .add (.var 3) (.const (.int .i64 1)))))))))
 (.seq
 (.seq
 (.call (some 10) 32 [(.var 2)] [])
 (.store 32 (.var 1) (.var 10) []))
 .ret)))),
  [(.ld (some 32) (.var 1))]⟩
theorem okx_154 : FnOk Tryz.prog 3 365 154 xf154 := fnOk_of Tryz.func154 (np := 1) (V := [0, 2, 3, 8, 7, 6, 5, 16, 17, 20, 23]) (ks := [[1, 2, 3, 4, 5]]) (by kernel_rfl)

/- tipstaff/insn.Encode -/
def xf155 : XF := ⟨1, [0, 2, 3, 9, 8, 7, 5, 12, 30, 31, 32, 6, 42, 43],
  (.seq
 (.set 1 (.const (.slice none 0 0)))
 (.seq
 (.set 2 (.const (.slice none 0 0)))
 (.seq
 (.seq
 (.seq
 (.set 5 (.var 0))
 (.seq
 (.set 4 (.len false (.var 5)))
 (.set 3 (.const (.int .i64 0)))))
 (.block 0
 (.loop [2, 3, 4, 5]
 (.seq
 (.cond (.bin .lss (.var 3) (.var 4))
 .skip
 (.exit 0))
 (.seq
 (.block 1
 (.seq
 (.seq
 (.set 7 (.ld (some 5) (.ixSl 5 (.var 5) (.var 3))))
 (.seq
 (.new (some 6) 46 (.const zA2))
 (.store 5 (.var 6) (.var 7) [])))
 (.seq
 (.seq
 (.chk [(.var 2)])
 (.seq
 (.row (some 8) 5 4 (.upd 3 1 (.upd 2 1 (.upd 1 1 (.upd 0 1 (.const (.agg (Array.replicate 4 (.int .u8 0)))) (.ld none (.offp 0 (.var 6)))) (.bin .or (.bin .and (.ld none (.offp 1 (.var 6))) (.const (.int .u8 15))) (.bin .shl (.ld none (.offp 2 (.var 6))) (.const (.int .u64 4))))) (.conv .u8 (.ld none (.offp 3 (.var 6))))) (.conv .u8 (.bin .shr (.ld none (.offp 3 (.var 6))) (.const (.int .u64 8))))))
 (.seq
 (.app (some 9) 5 1 (.var 2) (.var 8) [])
 (.set 2 (.var 9)))))
 (.seq
 (.set 10 (.const (.int .i64 0)))
 (.block 2
 (.loop [2, 3, 4, 5, 6, 10]
 (.seq
 (.cond (.bin .lss (.var 10) (.const (.int .i64 4)))
 .skip
 (.exit 2))
 (.seq
 (.block 3
 (.seq
 (.set 11 (.var 10))
 (.seq
 (.chk [(.var 2)])
 (.seq
 (.row (some 12) 5 1 (.upd 0 1 (.const (.agg #[(.int .u8 0)])) (.conv .u8 (.bin .shr (.ld none (.offp 4 (.var 6))) (.bin .mul (.const (.int .i64 8)) (.var 11))))))
 (.seq
 (.app (some 13) 5 1 (.var 2) (.var 12) [])
 (.set 2 (.var 13)))))))
 (.set 10 (.bin .add (.var 10) (.const (.int .i64 1))))))))))))
 (.set 3 (.bin .add (.var 3) (.const (.int .i64 1)))))))))
 (.seq
 (.set 1 (.var 2))
 .ret)))),
  [(.var 1)]⟩
theorem okx_155 : FnOk Tryz.prog 3 365 155 xf155 := fnOk_of Tryz.func155 (np := 1) (V := [0, 2, 3, 9, 8, 7, 5, 12, 30, 31, 32, 6, 42, 43]) (ks := [[2, 3, 4, 5], [2, 3, 4, 5, 6, 10]]) (by kernel_rfl)

/- tipstaff/insn.Of -/
def xf160 : XF := ⟨1, [0, 2, 4, 5, 9, 10, 14, 15, 20, 21, 22, 25],
  (.seq
 (.new (some 1) 287 (.const zA3))
 (.seq
 (.seq
 (.set 2 (.bin .and (.var 0) (.const (.int .u8 7))))
 (.block 0
 (.seq
 (.seq
 (.set 3 (.bin .eql (.var 2) (.const (.int .u8 4))))
 (.cond (.var 3)
 .skip
 (.set 3 (.bin .eql (.var 2) (.const (.int .u8 7))))))
 (.cond (.var 3)
 (.seq
 (.seq
 (.call (some 4) 192 [(.var 0)] [])
 (.store 5 (.var 1) (.var 4) []))
 .ret)
 (.seq
 (.seq
 (.set 5 (.bin .eql (.var 2) (.const (.int .u8 5))))
 (.cond (.var 5)
 .skip
 (.set 5 (.bin .eql (.var 2) (.const (.int .u8 6))))))
 (.cond (.var 5)
 (.seq
 (.seq
 (.call (some 6) 193 [(.var 0)] [])
 (.store 5 (.var 1) (.var 6) []))
 .ret)
 (.seq
 (.seq
 (.set 7 (.bin .eql (.var 2) (.const (.int .u8 1))))
 (.cond (.var 7)
 .skip
 (.seq
 (.set 7 (.bin .eql (.var 2) (.const (.int .u8 2))))
 (.cond (.var 7)
 .skip
 (.set 7 (.bin .eql (.var 2) (.const (.int .u8 3))))))))
 (.cond (.var 7)
 (.seq
 (.seq
 (.call (some 8) 194 [(.var 0)] [])
 (.store 5 (.var 1) (.var 8) []))
 .ret)
 .skip))))))))
 (.seq
 (.seq
 (.set 9 (.var 0))
 (.block 1
 (.seq
 (.set 10 (.bin .eql (.var 9) (.const (.int .u8 24))))
 (.cond (.var 10)
 (.seq
 (.seq
 (.chk [(.upd 2 1 (.upd 0 1 (.const zA3) (.const (.int .i64 9))) (.const (.int .i64 8)))])
 (.store 5 (.var 1) (.upd 2 1 (.upd 0 1 (.const zA3) (.const (.int .i64 9))) (.const (.int .i64 8))) []))
 .ret)
 (.seq
 (.set 11 (.bin .eql (.var 9) (.const (.int .u8 0))))
 (.cond (.var 11)
 (.seq
 (.seq
 (.chk [(.upd 0 1 (.const zA3) (.const (.int .i64 10)))])
 (.store 5 (.var 1) (.upd 0 1 (.const zA3) (.const (.int .i64 10))) []))
 .ret)
 .skip))))))
 (.seq
 (.store 5 (.var 1) (.const zA3) [])
 .ret)))),
  [(.ld (some 5) (.var 1))]⟩
theorem okx_160 : FnOk Tryz.prog 3 365 160 xf160 := fnOk_of Tryz.func160 (np := 1) (V := [0, 2, 4, 5, 9, 10, 14, 15, 20, 21, 22, 25]) (ks := []) (by kernel_rfl)

/- (*tipstaff/vm.machine).alu -/
def xf161 : XF := ⟨3, [0, 1, 2, 6, 4, 5, 22, 7, 8, 17, 19, 21, 23, 32, 33, 37, 57, 58, 48, 59, 65, 9, 10, 83, 78, 13],
  (.seq
 (.seq
 (.new (some 4) 46 (.var 1))
 (.seq
 (.new (some 5) 287 (.var 2))
 (.set 3 (.const (.bool false)))))
 (.seq
 (.seq
 .skip
 (.seq
 (.chk [(.var 0)])
 (.seq
 (.set 25 (.ld none (.offp 1 (.var 4))))
 (.seq
 (.set 9 (.ld (some 4) (.ixArr 11 4 (.offp 38 (.nn (.var 0))) (.var 25))))
 (.seq
 (.chk [(.var 0)])
 (.seq
 (.set 10 (.ld (some 5) (.var 4)))
 (.seq
 (.set 11 (.ld none (.offp 4 (.var 5))))
 (.seq
 (.resv 2)
 (.seq
 (.seq
 (.set 7 (.const (.bool true)))
 (.seq
 (.set 8 (.const (.bool true)))
 .skip))
 (.seq
 (.chk [(.var 7), (.var 8)])
 (.seq
 (.clr [7, 8])
 (.seq
 (.chk [(.const (.agg #[(.int .i64 0), (.int .u64 0), (.int .i64 0), (.pointer none)])), (.const (.agg #[(.int .i64 0), (.int .u64 0), (.int .i64 0), (.pointer none)]))])
 (.seq
 (.call (some 6) 167 [(.var 0), (.var 10), (.var 11)] [(.ld none (.offp 4 (.var 5))), (.ld (some 5) (.var 4)), (.ld (some 4) (.ixArr 11 4 (.offp 38 (.nn (.var 0))) (.var 25))), (.ld none (.offp 1 (.var 4)))])
 (.seq
 (.newR 0 7 218 (.const (.agg #[(.int .i64 0), (.int .u64 0), (.int .i64 0), (.pointer none)])))
 (.seq
 (.newR 1 8 218 (.const (.agg #[(.int .i64 0), (.int .u64 0), (.int .i64 0), (.pointer none)])))
 (.seq
 (.store 4 (.var 7) (.var 9) [])
 (.seq
 (.store 4 (.var 8) (.var 6) [])
 .skip)))))))))))))))))
 (.seq
 (.block 0
 (.seq
 (.set 12 (.pick (.bin .eql (.ld none (.offp 1 (.var 5))) (.const (.int .i64 11))) (.bin .eql (.ld none (.offp 0 (.var 8))) (.const (.int .i64 1))) (.const (.bool false))))
 (.cond (.var 12)
 (.seq
 (.call (some 13) 195 [(.const (.int .u64 0))] [])
 (.store 4 (.var 7) (.var 13) []))
 (.seq
 (.set 14 (.bin .eql (.ld none (.offp 1 (.var 5))) (.const (.int .i64 8))))
 (.cond (.var 14)
 (.seq
 (.call (some 15) 195 [(.const (.int .u64 0))] [])
 (.store 4 (.var 8) (.var 15) []))
 .skip)))))
 (.seq
 (.cond (.pick (.bin .eql (.ld none (.offp 0 (.var 7))) (.const (.int .i64 1))) (.bin .eql (.ld none (.offp 0 (.var 8))) (.const (.int .i64 1))) (.const (.bool false)))
 (.seq
 (.seq
 .skip
 (.seq
 (.chk [(.var 0)])
 (.seq
 (.set 18 (.ld none (.offp 1 (.var 4))))
 (.seq
 (.call (some 16) 197 [(.ld none (.offp 1 (.var 5))), (.ld none (.offp 3 (.var 5))), (.ld none (.offp 1 (.var 7))), (.ld none (.offp 1 (.var 8)))] [(.ld none (.offp 1 (.var 4)))])
 (.seq
 (.call (some 17) 195 [(.var 16)] [(.ld none (.offp 1 (.var 4)))])
 (.seq
 (.call (some 19) 196 [(.var 0), (.var 18), (.var 17)] [])
 (.set 3 (.var 19))))))))
 .ret)
 .skip)
 (.seq
 (.seq
 (.call (some 20) 198 [(.ld none (.offp 1 (.var 5))), (.ld (some 4) (.var 7)), (.ld (some 4) (.var 8))] [])
 (.seq
 (.chk [(.proj 1 (.var 20)), (.proj 0 (.var 20))])
 (.seq
 (.new (some 21) 218 (.const (.agg #[(.int .i64 0), (.int .u64 0), (.int .i64 0), (.pointer none)])))
 (.seq
 (.store 4 (.var 21) (.proj 0 (.var 20)) [])
 (.set 22 (.proj 1 (.var 20)))))))
 (.seq
 (.seq
 (.set 24 (.pick (.pick (.var 22) (.ld none (.offp 3 (.var 5))) (.const (.bool false))) (.bin .neq (.ld none (.offp 1 (.var 5))) (.const (.int .i64 8))) (.const (.bool false))))
 (.seq
 (.chk [(.pick (.var 24) (.ld (some 4) (.var 21)) (.const (.bool false))), (.pick (.var 24) (.ld none (.offp 1 (.var 4))) (.const (.bool false))), (.pick (.var 24) (.var 0) (.const (.bool false)))])
 (.seq
 (.cond (.pick (.var 24) (.const (.bool true)) (.const (.bool false)))
 (.call (some 23) 196 [(.var 0), (.ld none (.offp 1 (.var 4))), (.ld (some 4) (.var 21))] [])
 (.clr [23]))
 (.set 3 (.pick (.var 24) (.var 23) (.const (.bool false)))))))
 .ret)))))),
  [(.var 3)]⟩
theorem okx_161 : FnOk Tryz.prog 3 365 161 xf161 := fnOk_of Tryz.func161 (np := 3) (V := [0, 1, 2, 6, 4, 5, 22, 7, 8, 17, 19, 21, 23, 32, 33, 37, 57, 58, 48, 59, 65, 9, 10, 83, 78, 13]) (ks := []) (by kernel_rfl)

/- (*tipstaff/vm.machine).second -/
def xf167 : XF := ⟨3, [0, 1, 2, 6, 4, 19],
  (.seq
 (.seq
 (.new (some 4) 46 (.var 1))
 (.new (some 3) 218 (.const (.agg #[(.int .i64 0), (.int .u64 0), (.int .i64 0), (.pointer none)]))))
 (.seq
 (.cond (.var 2)
 (.seq
 (.seq
 .skip
 (.store 4 (.var 3) (.ld (some 4) (.ixArr 11 4 (.offp 38 (.nn (.var 0))) (.ld none (.offp 2 (.var 4))))) []))
 .ret)
 .skip)
 (.seq
 (.seq
 (.call (some 5) 195 [(.conv .u64 (.conv .i64 (.ld none (.offp 4 (.var 4)))))] [])
 (.store 4 (.var 3) (.var 5) []))
 .ret))),
  [(.ld (some 4) (.var 3))]⟩
theorem okx_167 : FnOk Tryz.prog 3 365 167 xf167 := fnOk_of Tryz.func167 (np := 3) (V := [0, 1, 2, 6, 4, 19]) (ks := []) (by kernel_rfl)

/- math/bits.RotateLeft32 -/
def xf171 : XF := ⟨2, [0, 1, 4, 5],
  (.seq
 (.set 2 (.const (.int .u32 0)))
 (.seq
 (.set 3 (.bin .and (.conv .u64 (.var 1)) (.const (.int .u64 31))))
 (.seq
 (.set 2 (.bin .or (.bin .shl (.var 0) (.var 3)) (.bin .shr (.var 0) (.bin .sub (.const (.int .u64 32)) (.var 3)))))
 .ret))),
  [(.var 2)]⟩
theorem okx_171 : FnOk Tryz.prog 3 365 171 xf171 := fnOk_of Tryz.func171 (np := 2) (V := [0, 1, 4, 5]) (ks := []) (by kernel_rfl)

/- math/bits.Len -/
def xf174 : XF := ⟨1, [0, 2, 5, 7],
  (.seq
 (.set 1 (.const (.int .i64 0)))
 (.seq
 (.cond (.const (.bool false))
 (.seq
 (.seq
 (.call (some 2) 215 [(.conv .u32 (.var 0))] [])
 (.set 1 (.var 2)))
 .ret)
 .skip)
 (.seq
 (.seq
 (.call (some 3) 216 [(.var 0)] [])
 (.set 1 (.var 3)))
 .ret))),
  [(.var 1)]⟩
theorem okx_174 : FnOk Tryz.prog 3 365 174 xf174 := fnOk_of Tryz.func174 (np := 1) (V := [0, 2, 5, 7]) (ks := []) (by kernel_rfl)

/- slices.Sort[[]int32,int32] -/
def xf175 : XF := ⟨1, [0, 2, 9],
  (.seq
 (.set 1 (.len false (.var 0)))
 (.seq
 (.chk [(.var 0)])
 (.seq
 (.call (some 2) 174 [(.conv .u64 (.var 1))] [])
 (.call none 217 [(.var 0), (.const (.int .i64 0)), (.var 1), (.var 2)] [])))),
  []⟩
theorem okx_175 : FnOk Tryz.prog 3 365 175 xf175 := fnOk_of Tryz.func175 (np := 1) (V := [0, 2, 9]) (ks := []) (by kernel_rfl)

/- slices.Compact[[]int32,int32] -/
def xf176 : XF := ⟨1, [0, 2, 3, 4, 5],
  (.seq
 (.set 1 (.const (.slice none 0 0)))
 (.seq
 (.cond (.bin .lss (.len false (.var 0)) (.const (.int .i64 2)))
 (.seq
 (.set 1 (.var 0))
 .ret)
 .skip)
 (.seq
 (.seq
 (.set 2 (.const (.int .i64 1)))
 (.block 0
 (.loop [0, 2]
 (.seq
 (.cond (.bin .lss (.var 2) (.len false (.var 0)))
 .skip
 (.exit 0))
 (.seq
 (.block 1
 (.seq
 .skip
 (.cond (.bin .eql (.ld none (.ixSl 1 (.var 0) (.var 2))) (.ld none (.ixSl 1 (.var 0) (.bin .sub (.var 2) (.const (.int .i64 1))))))
 (.seq
 (.set 3 (.slSl 1 (.var 0) (.var 2) (.len false (.var 0))))
 (.seq
 (.seq
 (.set 4 (.const (.int .i64 1)))
 (.block 2
 (.loop [0, 2, 3, 4]
 (.seq
 (.cond (.bin .lss (.var 4) (.len false (.var 3)))
 .skip
 (.exit 2))
 (.seq
 (.block 3
 (.seq
 .skip
 (.cond (.bin .neq (.ld none (.ixSl 1 (.var 3) (.var 4))) (.ld none (.ixSl 1 (.var 3) (.bin .sub (.var 4) (.const (.int .i64 1))))))
 (.seq
 (.store 1 (.ixSl 1 (.var 0) (.var 2)) (.ld none (.ixSl 1 (.var 3) (.var 4))) [])
 (.set 2 (.bin .add (.var 2) (.const (.int .i64 1)))))
 .skip)))
 (.set 4 (.bin .add (.var 4) (.const (.int .i64 1)))))))))
 (.seq
 (.clear [(.int .i32 0)] (.slSl 1 (.var 0) (.var 2) (.len false (.var 0))) [])
 (.seq
 (.set 1 (.slSl 1 (.var 0) (.const (.int .i64 0)) (.var 2)))
 .ret))))
 .skip)))
 (.set 2 (.bin .add (.var 2) (.const (.int .i64 1)))))))))
 (.seq
 (.set 1 (.var 0))
 .ret)))),
  [(.var 1)]⟩
theorem okx_176 : FnOk Tryz.prog 3 365 176 xf176 := fnOk_of Tryz.func176 (np := 1) (V := [0, 2, 3, 4, 5]) (ks := [[0, 2], [0, 2, 3, 4]]) (by kernel_rfl)

/- tipstaff/shape.Check -/
def xf179 : XF := ⟨1, [0, 2, 3, 8, 12, 18, 17, 4, 23, 29, 28, 5, 34, 6, 45, 7],
  (.seq
 (.seq
 (.set 1 (.const (.int .i64 0)))
 (.set 2 (.const (.int .i64 0))))
 (.seq
 (.block 0
 (.seq
 (.set 3 (.bin .gtr (.len false (.var 0)) (.const (.int .i64 256))))
 (.cond (.var 3)
 (.seq
 (.seq
 (.set 1 (.const (.int .i64 0)))
 (.set 2 (.const (.int .i64 7))))
 .ret)
 (.seq
 (.set 4 (.bin .eql (.len false (.var 0)) (.const (.int .i64 0))))
 (.cond (.var 4)
 (.seq
 (.seq
 (.set 1 (.const (.int .i64 0)))
 (.set 2 (.const (.int .i64 22))))
 .ret)
 .skip)))))
 (.seq
 (.seq
 (.seq
 (.set 6 (.len false (.var 0)))
 (.set 5 (.const (.int .i64 0))))
 (.block 1
 (.loop [0, 5, 6]
 (.seq
 (.cond (.bin .lss (.var 5) (.var 6))
 .skip
 (.exit 1))
 (.seq
 (.block 2
 (.seq
 (.set 7 (.var 5))
 (.seq
 (.call (some 8) 219 [(.var 0), (.var 7)] [])
 (.cond (.un .not (.var 8))
 (.seq
 (.seq
 (.set 1 (.var 7))
 (.set 2 (.const (.int .i64 22))))
 .ret)
 .skip))))
 (.set 5 (.bin .add (.var 5) (.const (.int .i64 1)))))))))
 (.seq
 (.seq
 (.seq
 (.set 10 (.len false (.var 0)))
 (.set 9 (.const (.int .i64 0))))
 (.block 3
 (.loop [0, 9, 10]
 (.seq
 (.cond (.bin .lss (.var 9) (.var 10))
 .skip
 (.exit 3))
 (.seq
 (.block 4
 (.seq
 (.set 11 (.var 9))
 (.seq
 (.call (some 12) 220 [(.var 0), (.var 11)] [])
 (.cond (.un .not (.var 12))
 (.seq
 (.seq
 (.set 1 (.var 11))
 (.set 2 (.const (.int .i64 22))))
 .ret)
 .skip))))
 (.set 9 (.bin .add (.var 9) (.const (.int .i64 1)))))))))
 (.seq
 (.set 13 (.bin .sub (.len false (.var 0)) (.const (.int .i64 1))))
 (.seq
 (.seq
 (.seq
 (.call (some 14) 221 [(.ld (some 5) (.ixSl 5 (.var 0) (.var 13)))] [])
 (.set 15 (.var 14)))
 (.cond (.pick (.bin .neq (.var 15) (.const (.int .i64 5))) (.bin .neq (.var 15) (.const (.int .i64 3))) (.const (.bool false)))
 (.seq
 (.seq
 (.set 1 (.var 13))
 (.set 2 (.const (.int .i64 22))))
 .ret)
 .skip))
 (.seq
 (.seq
 (.set 1 (.const (.int .i64 0)))
 (.set 2 (.const (.int .i64 0))))
 .ret))))))),
  [(.var 1), (.var 2)]⟩
theorem okx_179 : FnOk Tryz.prog 3 365 179 xf179 := fnOk_of Tryz.func179 (np := 1) (V := [0, 2, 3, 8, 12, 18, 17, 4, 23, 29, 28, 5, 34, 6, 45, 7]) (ks := [[0, 5, 6], [0, 9, 10]]) (by kernel_rfl)

/- slices.Index[[]bool,bool] -/
def xf180 : XF := ⟨2, [0, 1, 4, 8, 7, 5],
  (.seq
 (.set 2 (.const (.int .i64 0)))
 (.seq
 (.seq
 (.seq
 (.set 4 (.len false (.var 0)))
 (.set 3 (.const (.int .i64 0))))
 (.block 0
 (.loop [0, 1, 3, 4]
 (.seq
 (.cond (.bin .lss (.var 3) (.var 4))
 .skip
 (.exit 0))
 (.seq
 (.block 1
 (.seq
 (.set 5 (.var 3))
 (.cond (.eqx false .bool (.var 1) (.ld none (.ixSl 1 (.var 0) (.var 5))))
 (.seq
 (.set 2 (.var 5))
 .ret)
 .skip)))
 (.set 3 (.bin .add (.var 3) (.const (.int .i64 1)))))))))
 (.seq
 (.set 2 (.const (.int .i64 (-1))))
 .ret))),
  [(.var 2)]⟩
theorem okx_180 : FnOk Tryz.prog 3 365 180 xf180 := fnOk_of Tryz.func180 (np := 2) (V := [0, 1, 4, 8, 7, 5]) (ks := [[0, 1, 3, 4]]) (by kernel_rfl)

/- tipstaff/cfg.Reach -/
def xf181 : XF := ⟨1, [0, 2, 8, 3, 11, 4, 17, 16, 15, 5, 6, 34, 43],
  (.seq
 (.set 1 (.const (.slice none 0 0)))
 (.seq
 (.seq
 (.call (some 2) 222 [(.var 0)] [])
 (.set 3 (.var 2)))
 (.seq
 (.seq
 (.mk (some 4) 4 [(.bool false)] (.len false (.var 0)) (.len false (.var 0)) [])
 (.set 5 (.var 4)))
 (.seq
 (.seq
 (.seq
 (.set 8 (.ld none (.offp 1 (.nn (.var 3)))))
 (.seq
 (.set 7 (.len false (.var 8)))
 (.set 6 (.const (.int .i64 0)))))
 (.block 0
 (.loop [0, 5, 6, 7, 8]
 (.seq
 (.cond (.bin .lss (.var 6) (.var 7))
 .skip
 (.exit 0))
 (.seq
 (.block 1
 (.seq
 (.seq
 (.chk [(.ld none (.ixSl 1 (.var 8) (.var 6)))])
 (.seq
 (.set 9 (.var 6))
 (.set 10 (.ld none (.ixSl 1 (.var 8) (.var 6))))))
 (.seq
 (.store 1 (.ixSl 1 (.var 5) (.var 9)) (.bin .eql (.var 10) (.const (.int .i64 2))) [])
 (.seq
 (.seq
 (.chk [(.pick (.bin .gtr (.var 9) (.const (.int .i64 0))) (.ld (some 5) (.ixSl 5 (.var 0) (.var 9))) (.const (.bool false)))])
 (.seq
 (.cond (.pick (.bin .gtr (.var 9) (.const (.int .i64 0))) (.const (.bool true)) (.const (.bool false)))
 (.call (some 11) 223 [(.ld (some 5) (.ixSl 5 (.var 0) (.var 9)))] [])
 (.clr [11]))
 (.seq
 (.chk [(.pick (.pick (.bin .gtr (.var 9) (.const (.int .i64 0))) (.bin .eql (.var 11) (.const (.int .i64 10))) (.const (.bool false))) (.ld (some 5) (.ixSl 5 (.var 0) (.bin .sub (.var 9) (.const (.int .i64 1))))) (.const (.bool false)))])
 (.cond (.pick (.pick (.bin .gtr (.var 9) (.const (.int .i64 0))) (.bin .eql (.var 11) (.const (.int .i64 10))) (.const (.bool false))) (.const (.bool true)) (.const (.bool false)))
 (.call (some 12) 223 [(.ld (some 5) (.ixSl 5 (.var 0) (.bin .sub (.var 9) (.const (.int .i64 1)))))] [])
 (.clr [12])))))
 (.cond (.pick (.pick (.bin .gtr (.var 9) (.const (.int .i64 0))) (.bin .eql (.var 11) (.const (.int .i64 10))) (.const (.bool false))) (.bin .eql (.var 12) (.const (.int .i64 9))) (.const (.bool false)))
 (.store 1 (.ixSl 1 (.var 5) (.var 9)) (.pick (.ld none (.ixSl 1 (.var 5) (.var 9))) (.const (.bool true)) (.ld none (.ixSl 1 (.var 5) (.bin .sub (.var 9) (.const (.int .i64 1)))))) [])
 .skip)))))
 (.set 6 (.bin .add (.var 6) (.const (.int .i64 1)))))))))
 (.seq
 (.set 1 (.var 5))
 .ret))))),
  [(.var 1)]⟩
theorem okx_181 : FnOk Tryz.prog 3 365 181 xf181 := fnOk_of Tryz.func181 (np := 1) (V := [0, 2, 8, 3, 11, 4, 17, 16, 15, 5, 6, 34, 43]) (ks := [[0, 5, 6, 7, 8]]) (by kernel_rfl)

/- tipstaff/cfg.Loops -/
def xf182 : XF := ⟨1, [0, 2, 4],
  (.seq
 (.set 1 (.const (.bool false)))
 (.seq
 (.seq
 (.call (some 2) 222 [(.var 0)] [])
 (.set 1 (.ld none (.offp 2 (.nn (.var 2))))))
 .ret)),
  [(.var 1)]⟩
theorem okx_182 : FnOk Tryz.prog 3 365 182 xf182 := fnOk_of Tryz.func182 (np := 1) (V := [0, 2, 4]) (ks := []) (by kernel_rfl)

/- slices.IndexFunc[[]tipstaff/bmap.Spec,tipstaff/bmap.Spec] -/
def xf183 : XF := ⟨2, [0, 1, 4, 8, 7, 5, 16],
  (.seq
 (.set 2 (.const (.int .i64 0)))
 (.seq
 (.seq
 (.seq
 (.set 4 (.len false (.var 0)))
 (.set 3 (.const (.int .i64 0))))
 (.block 0
 (.loop [0, 1, 3, 4]
 (.seq
 (.cond (.bin .lss (.var 3) (.var 4))
 .skip
 (.exit 0))
 (.seq
 (.block 1
 (.seq
 (.set 5 (.var 3))
 (.seq
 (.dyn (some 6) (.var 1) [(.ld (some 4) (.ixSl 4 (.var 0) (.var 5)))] [])
 (.cond (.var 6)
 (.seq
 (.set 2 (.var 5))
 .ret)
 .skip))))
 (.set 3 (.bin .add (.var 3) (.const (.int .i64 1)))))))))
 (.seq
 (.set 2 (.const (.int .i64 (-1))))
 .ret))),
  [(.var 2)]⟩
theorem okx_183 : FnOk Tryz.prog 3 365 183 xf183 := fnOk_of Tryz.func183 (np := 2) (V := [0, 1, 4, 8, 7, 5, 16]) (ks := [[0, 1, 3, 4]]) (by kernel_rfl)

/- (*tipstaff/verify.checker).gone -/
def xf184 : XF := ⟨2, [0, 1, 4, 3, 11, 13],
  (.seq
 (.seq
 (.new (some 3) 265 (.var 1))
 (.set 2 (.const (.bool false))))
 (.seq
 (.seq
 .skip
 (.seq
 (.chk [(.cap1 (.const (.func (.func 225) #[] #[])) (.var 3))])
 (.seq
 (.look (some 4) (.slice none 0 0) false .i64 (.ld none (.offp 5 (.nn (.var 0)))) (.ld none (.offp 0 (.var 3))) [])
 (.seq
 (.call (some 5) 224 [(.var 4), (.cap1 (.const (.func (.func 225) #[] #[])) (.var 3))] [])
 (.set 2 (.var 5))))))
 .ret)),
  [(.var 2)]⟩
theorem okx_184 : FnOk Tryz.prog 3 365 184 xf184 := fnOk_of Tryz.func184 (np := 2) (V := [0, 1, 4, 3, 11, 13]) (ks := []) (by kernel_rfl)

/- (*tipstaff/verify.checker).step -/
def xf185 : XF := ⟨2, [0, 1, 4, 5, 3, 6, 15, 18, 7, 20, 21, 27, 30, 36, 39, 45, 41, 46, 47, 48, 53, 56, 64, 70, 73, 84, 76, 77, 78, 85, 88, 94, 97, 102, 11, 13],
  (.seq
 (.seq
 (.new (some 4) 265 (.var 1))
 (.seq
 (.set 2 (.const (.slice none 0 0)))
 (.set 3 (.const (.bool false)))))
 (.seq
 (.seq
 .skip
 (.seq
 (.set 34 (.ld none (.offp 0 (.nn (.var 0)))))
 (.seq
 (.set 35 (.ld none (.offp 0 (.var 4))))
 (.seq
 (.set 6 (.ld (some 5) (.ixSl 5 (.var 34) (.var 35))))
 (.seq
 (.new (some 5) 46 (.const zA2))
 (.store 5 (.var 5) (.var 6) []))))))
 (.seq
 (.seq
 (.call (some 7) 160 [(.ld none (.offp 0 (.var 5)))] [])
 (.seq
 (.new (some 8) 287 (.const zA3))
 (.store 5 (.var 8) (.var 7) [])))
 (.seq
 (.seq
 (.set 9 (.ld none (.offp 0 (.var 8))))
 (.block 0
 (.seq
 (.set 10 (.bin .eql (.var 9) (.const (.int .i64 1))))
 (.cond (.var 10)
 (.seq
 (.seq
 (.call (some 11) 227 [(.var 0), (.ld (some 274) (.var 4)), (.ld (some 5) (.var 5)), (.ld (some 5) (.var 8))] [])
 (.seq
 (.chk [(.proj 1 (.var 11))])
 (.seq
 (.set 2 (.proj 0 (.var 11)))
 (.set 3 (.proj 1 (.var 11))))))
 .ret)
 (.seq
 (.set 12 (.bin .eql (.var 9) (.const (.int .i64 2))))
 (.cond (.var 12)
 (.seq
 (.seq
 (.call (some 13) 228 [(.var 0), (.ld (some 274) (.var 4)), (.ld (some 5) (.var 5)), (.ld (some 5) (.var 8))] [])
 (.seq
 (.chk [(.proj 1 (.var 13))])
 (.seq
 (.set 2 (.proj 0 (.var 13)))
 (.set 3 (.proj 1 (.var 13))))))
 .ret)
 (.seq
 (.set 14 (.bin .eql (.var 9) (.const (.int .i64 3))))
 (.cond (.var 14)
 (.seq
 (.seq
 .skip
 (.seq
 (.set 16 (.ld (some 274) (.var 4)))
 (.seq
 (.call (some 15) 163 [(.ld none (.offp 0 (.var 4))), (.ld (some 5) (.var 5))] [(.ld (some 274) (.var 4))])
 (.seq
 (.call (some 17) 229 [(.var 16), (.var 15)] [])
 (.seq
 (.row (some 18) 265 1 (.upd 0 274 (.const zA18) (.var 17)))
 (.seq
 (.set 2 (.var 18))
 (.set 3 (.const (.bool true)))))))))
 .ret)
 (.seq
 (.set 19 (.bin .eql (.var 9) (.const (.int .i64 4))))
 (.cond (.var 19)
 (.seq
 (.seq
 (.call (some 20) 230 [(.var 0), (.ld (some 274) (.var 4)), (.ld (some 5) (.var 5))] [])
 (.seq
 (.chk [(.proj 1 (.var 20))])
 (.seq
 (.set 2 (.proj 0 (.var 20)))
 (.set 3 (.proj 1 (.var 20))))))
 .ret)
 (.seq
 (.set 21 (.bin .eql (.var 9) (.const (.int .i64 5))))
 (.cond (.var 21)
 (.seq
 (.seq
 .skip
 (.seq
 (.chk [(.bin .eql (.ld none (.offp 0 (.ixArr 11 11 (.offp 0 (.offp 1 (.var 4))) (.const (.int .i64 0))))) (.const (.int .i64 1)))])
 (.seq
 (.set 2 (.const (.slice none 0 0)))
 (.set 3 (.bin .eql (.ld none (.offp 0 (.ixArr 11 11 (.offp 0 (.offp 1 (.var 4))) (.const (.int .i64 0))))) (.const (.int .i64 1)))))))
 .ret)
 (.seq
 (.set 22 (.bin .eql (.var 9) (.const (.int .i64 6))))
 (.cond (.var 22)
 (.seq
 (.seq
 (.call (some 23) 231 [(.var 0), (.ld (some 274) (.var 4)), (.ld (some 5) (.var 5)), (.ld (some 5) (.var 8))] [])
 (.seq
 (.chk [(.proj 1 (.var 23))])
 (.seq
 (.set 2 (.proj 0 (.var 23)))
 (.set 3 (.proj 1 (.var 23))))))
 .ret)
 (.seq
 (.set 24 (.bin .eql (.var 9) (.const (.int .i64 7))))
 (.cond (.var 24)
 (.seq
 (.seq
 .skip
 (.seq
 (.chk [(.var 0)])
 (.seq
 (.set 26 (.ld (some 274) (.var 4)))
 (.seq
 (.set 27 (.ld (some 5) (.var 5)))
 (.seq
 (.set 28 (.ld (some 5) (.var 8)))
 (.seq
 (.call (some 25) 233 [(.ld (some 273) (.offp 1 (.var 4))), (.ld (some 5) (.var 5)), (.ld none (.offp 4 (.var 8)))] [(.ld (some 5) (.var 8)), (.ld (some 5) (.var 5)), (.ld (some 274) (.var 4))])
 (.seq
 (.call (some 29) 232 [(.var 0), (.var 26), (.var 27), (.var 28), (.var 25)] [])
 (.seq
 (.chk [(.proj 1 (.var 29))])
 (.seq
 (.set 2 (.proj 0 (.var 29)))
 (.set 3 (.proj 1 (.var 29))))))))))))
 .ret)
 (.seq
 (.set 30 (.bin .eql (.var 9) (.const (.int .i64 8))))
 (.cond (.var 30)
 (.seq
 (.seq
 (.call (some 31) 234 [(.var 0), (.ld (some 274) (.var 4)), (.ld (some 5) (.var 5)), (.ld (some 5) (.var 8))] [])
 (.seq
 (.chk [(.proj 1 (.var 31))])
 (.seq
 (.set 2 (.proj 0 (.var 31)))
 (.set 3 (.proj 1 (.var 31))))))
 .ret)
 (.seq
 (.set 32 (.bin .eql (.var 9) (.const (.int .i64 9))))
 (.cond (.var 32)
 (.seq
 (.seq
 (.call (some 33) 235 [(.var 0), (.ld (some 274) (.var 4)), (.ld (some 5) (.var 5))] [])
 (.seq
 (.chk [(.proj 1 (.var 33))])
 (.seq
 (.set 2 (.proj 0 (.var 33)))
 (.set 3 (.proj 1 (.var 33))))))
 .ret)
 .skip))))))))))))))))))))
 (.seq
 (.seq
 (.set 2 (.const (.slice none 0 0)))
 (.set 3 (.const (.bool false))))
 .ret))))),
  [(.var 2), (.var 3)]⟩
theorem okx_185 : FnOk Tryz.prog 3 365 185 xf185 := fnOk_of Tryz.func185 (np := 2) (V := [0, 1, 4, 5, 3, 6, 15, 18, 7, 20, 21, 27, 30, 36, 39, 45, 41, 46, 47, 48, 53, 56, 64, 70, 73, 84, 76, 77, 78, 85, 88, 94, 97, 102, 11, 13]) (ks := []) (by kernel_rfl)

/- tipstaff/insn.alu -/
def xf192 : XF := ⟨1, [0, 2, 3, 13],
  (.seq
 (.new (some 1) 287 (.const zA3))
 (.seq
 (.seq
 (.set 3 (.upd 4 1 (.upd 3 1 (.upd 2 1 (.upd 1 1 (.upd 0 1 (.const zA3) (.const (.int .i64 1))) (.conv .i64 (.bin .shr (.var 0) (.const (.int .u64 4))))) (.const (.int .i64 0))) (.bin .eql (.bin .and (.var 0) (.const (.int .u8 7))) (.const (.int .u8 7)))) (.bin .neq (.bin .and (.var 0) (.const (.int .u8 8))) (.const (.int .u8 0)))))
 (.seq
 (.new (some 2) 287 (.const zA3))
 (.store 5 (.var 2) (.var 3) [])))
 (.seq
 (.cond (.pick (.bin .gtr (.ld none (.offp 1 (.var 2))) (.const (.int .i64 12))) (.const (.bool true)) (.pick (.bin .eql (.ld none (.offp 1 (.var 2))) (.const (.int .i64 8))) (.ld none (.offp 4 (.var 2))) (.const (.bool false))))
 (.seq
 (.store 5 (.var 1) (.const zA3) [])
 .ret)
 .skip)
 (.seq
 (.store 5 (.var 1) (.ld (some 5) (.var 2)) [])
 .ret)))),
  [(.ld (some 5) (.var 1))]⟩
theorem okx_192 : FnOk Tryz.prog 3 365 192 xf192 := fnOk_of Tryz.func192 (np := 1) (V := [0, 2, 3, 13]) (ks := []) (by kernel_rfl)

/- tipstaff/insn.jump -/
def xf193 : XF := ⟨1, [0, 2, 3, 14, 4, 23, 29, 32, 35],
  (.seq
 (.new (some 1) 287 (.const zA3))
 (.seq
 (.seq
 (.set 3 (.upd 4 1 (.upd 3 1 (.upd 2 1 (.upd 1 1 (.upd 0 1 (.const zA3) (.const (.int .i64 2))) (.conv .i64 (.bin .shr (.var 0) (.const (.int .u64 4))))) (.const (.int .i64 0))) (.bin .eql (.bin .and (.var 0) (.const (.int .u8 7))) (.const (.int .u8 5)))) (.bin .neq (.bin .and (.var 0) (.const (.int .u8 8))) (.const (.int .u8 0)))))
 (.seq
 (.new (some 2) 287 (.const zA3))
 (.store 5 (.var 2) (.var 3) [])))
 (.seq
 (.set 4 (.pick (.ld none (.offp 3 (.var 2))) (.un .not (.ld none (.offp 4 (.var 2)))) (.const (.bool false))))
 (.seq
 (.seq
 (.set 5 (.ld none (.offp 1 (.var 2))))
 (.block 0
 (.seq
 (.set 6 (.bin .eql (.var 5) (.const (.int .i64 0))))
 (.cond (.var 6)
 (.seq
 (.chk [(.upd 0 1 (.const zA3) (.const (.int .i64 3)))])
 (.store 5 (.var 2) (.upd 0 1 (.const zA3) (.const (.int .i64 3))) []))
 (.seq
 (.set 7 (.bin .eql (.var 5) (.const (.int .i64 8))))
 (.cond (.var 7)
 (.seq
 (.chk [(.upd 0 1 (.const zA3) (.const (.int .i64 4)))])
 (.store 5 (.var 2) (.upd 0 1 (.const zA3) (.const (.int .i64 4))) []))
 (.seq
 (.set 8 (.bin .eql (.var 5) (.const (.int .i64 9))))
 (.cond (.var 8)
 (.seq
 (.chk [(.upd 0 1 (.const zA3) (.const (.int .i64 5)))])
 (.store 5 (.var 2) (.upd 0 1 (.const zA3) (.const (.int .i64 5))) []))
 (.seq
 (.cond (.bin .gtr (.ld none (.offp 1 (.var 2))) (.const (.int .i64 13)))
 (.seq
 (.store 5 (.var 1) (.const zA3) [])
 .ret)
 .skip)
 (.seq
 (.store 5 (.var 1) (.ld (some 5) (.var 2)) [])
 .ret))))))))))
 (.seq
 (.cond (.un .not (.var 4))
 (.seq
 (.store 5 (.var 1) (.const zA3) [])
 .ret)
 .skip)
 (.seq
 (.store 5 (.var 1) (.ld (some 5) (.var 2)) [])
 .ret)))))),
  [(.ld (some 5) (.var 1))]⟩
theorem okx_193 : FnOk Tryz.prog 3 365 193 xf193 := fnOk_of Tryz.func193 (np := 1) (V := [0, 2, 3, 14, 4, 23, 29, 32, 35]) (ks := []) (by kernel_rfl)

/- tipstaff/vm.number -/
def xf195 : XF := ⟨1, [0, 2],
  (.seq
 (.new (some 1) 218 (.const (.agg #[(.int .i64 0), (.int .u64 0), (.int .i64 0), (.pointer none)])))
 (.seq
 (.seq
 (.chk [(.upd 1 1 (.upd 0 1 (.const (.agg #[(.int .i64 0), (.int .u64 0), (.int .i64 0), (.pointer none)])) (.const (.int .i64 1))) (.var 0))])
 (.store 4 (.var 1) (.upd 1 1 (.upd 0 1 (.const (.agg #[(.int .i64 0), (.int .u64 0), (.int .i64 0), (.pointer none)])) (.const (.int .i64 1))) (.var 0)) []))
 .ret)),
  [(.ld (some 4) (.var 1))]⟩
theorem okx_195 : FnOk Tryz.prog 3 365 195 xf195 := fnOk_of Tryz.func195 (np := 1) (V := [0, 2]) (ks := []) (by kernel_rfl)

/- (*tipstaff/vm.machine).set -/
def xf196 : XF := ⟨3, [0, 1, 2, 6, 5],
  (.seq
 (.seq
 (.new (some 4) 218 (.var 2))
 (.set 3 (.const (.bool false))))
 (.seq
 (.cond (.bin .eql (.var 1) (.const (.int .u8 10)))
 (.seq
 (.set 3 (.const (.bool false)))
 .ret)
 .skip)
 (.seq
 (.seq
 .skip
 (.store 4 (.ixArr 11 4 (.offp 38 (.nn (.var 0))) (.var 1)) (.ld (some 4) (.var 4)) []))
 (.seq
 (.store 1 (.offp 82 (.nn (.var 0))) (.bin .add (.ld none (.offp 82 (.nn (.var 0)))) (.const (.int .i64 1))) [])
 (.seq
 (.set 3 (.const (.bool true)))
 .ret))))),
  [(.var 3)]⟩
theorem okx_196 : FnOk Tryz.prog 3 365 196 xf196 := fnOk_of Tryz.func196 (np := 3) (V := [0, 1, 2, 6, 5]) (ks := []) (by kernel_rfl)

/- tipstaff/scalar.Eval -/
def xf197 : XF := ⟨4, [0, 1, 2, 3, 8, 9, 18, 23, 31, 22],
  (.seq
 (.set 4 (.const (.int .u64 0)))
 (.seq
 (.cond (.un .not (.var 1))
 (.seq
 (.chk [(.conv .u64 (.conv .u32 (.var 3)))])
 (.seq
 (.set 2 (.conv .u64 (.conv .u32 (.var 2))))
 (.set 3 (.conv .u64 (.conv .u32 (.var 3))))))
 .skip)
 (.seq
 (.set 5 (.const (.int .u64 0)))
 (.seq
 (.seq
 (.set 6 (.var 0))
 (.block 0
 (.seq
 (.seq
 (.set 7 (.bin .eql (.var 6) (.const (.int .i64 6))))
 (.cond (.var 7)
 .skip
 (.seq
 (.set 7 (.bin .eql (.var 6) (.const (.int .i64 7))))
 (.cond (.var 7)
 .skip
 (.set 7 (.bin .eql (.var 6) (.const (.int .i64 12))))))))
 (.cond (.var 7)
 (.seq
 (.call (some 8) 243 [(.var 0), (.var 1), (.var 2), (.var 3)] [])
 (.set 5 (.var 8)))
 (.seq
 (.call (some 9) 244 [(.var 0), (.var 2), (.var 3)] [])
 (.set 5 (.var 9)))))))
 (.seq
 (.cond (.un .not (.var 1))
 (.set 5 (.conv .u64 (.conv .u32 (.var 5))))
 .skip)
 (.seq
 (.set 4 (.var 5))
 .ret)))))),
  [(.var 4)]⟩
theorem okx_197 : FnOk Tryz.prog 3 365 197 xf197 := fnOk_of Tryz.func197 (np := 4) (V := [0, 1, 2, 3, 8, 9, 18, 23, 31, 22]) (ks := []) (by kernel_rfl)

/- math/bits.Len64 -/
def xf216 : XF := ⟨1, [0, 2],
  (.seq
 (.set 1 (.const (.int .i64 0)))
 (.seq
 (.cond (.bin .geq (.var 0) (.const (.int .u64 4294967296)))
 (.seq
 (.set 0 (.bin .shr (.var 0) (.const (.int .u64 32))))
 (.set 1 (.const (.int .i64 32))))
 .skip)
 (.seq
 (.cond (.bin .geq (.var 0) (.const (.int .u64 65536)))
 (.seq
 (.set 0 (.bin .shr (.var 0) (.const (.int .u64 16))))
 (.set 1 (.bin .add (.var 1) (.const (.int .i64 16)))))
 .skip)
 (.seq
 (.cond (.bin .geq (.var 0) (.const (.int .u64 256)))
 (.seq
 (.set 0 (.bin .shr (.var 0) (.const (.int .u64 8))))
 (.set 1 (.bin .add (.var 1) (.const (.int .i64 8)))))
 .skip)
 (.seq
 (.seq
 (.chk [(.bin .add (.var 1) (.conv .i64 (.idxStr (.const (.string ⟨#[0, 1, 2, 2, 3, 3, 3, 3, 4, 4, 4, 4, 4, 4, 4, 4, 5, 5, 5, 5, 5, 5, 5, 5, 5, 5, 5, 5, 5, 5, 5, 5, 6, 6, 6, 6, 6, 6, 6, 6, 6, 6, 6, 6, 6, 6, 6, 6, 6, 6, 6, 6, 6, 6, 6, 6, 6, 6, 6, 6, 6, 6, 6, 6, 7, 7, 7, 7, 7, 7, 7, 7, 7, 7, 7, 7, 7, 7, 7, 7, 7, 7, 7, 7, 7, 7, 7, 7, 7, 7, 7, 7, 7, 7, 7, 7, 7, 7, 7, 7, 7, 7, 7, 7, 7, 7, 7, 7, 7, 7, 7, 7, 7, 7, 7, 7, 7, 7, 7, 7, 7, 7, 7, 7, 7, 7, 7, 7, 8, 8, 8, 8, 8, 8, 8, 8, 8, 8, 8, 8, 8, 8, 8, 8, 8, 8, 8, 8, 8, 8, 8, 8, 8, 8, 8, 8, 8, 8, 8, 8, 8, 8, 8, 8, 8, 8, 8, 8, 8, 8, 8, 8, 8, 8, 8, 8, 8, 8, 8, 8, 8, 8, 8, 8, 8, 8, 8, 8, 8, 8, 8, 8, 8, 8, 8, 8, 8, 8, 8, 8, 8, 8, 8, 8, 8, 8, 8, 8, 8, 8, 8, 8, 8, 8, 8, 8, 8, 8, 8, 8, 8, 8, 8, 8, 8, 8, 8, 8, 8, 8, 8, 8, 8, 8, 8, 8, 8, 8, 8, 8, 8, 8, 8, 8, 8, 8, 8, 8, 8, 8, 8, 8, 8, 8, 8, 8]⟩)) (.conv .u8 (.var 0))))), (.conv .i64 (.idxStr (.const (.string ⟨#[0, 1, 2, 2, 3, 3, 3, 3, 4, 4, 4, 4, 4, 4, 4, 4, 5, 5, 5, 5, 5, 5, 5, 5, 5, 5, 5, 5, 5, 5, 5, 5, 6, 6, 6, 6, 6, 6, 6, 6, 6, 6, 6, 6, 6, 6, 6, 6, 6, 6, 6, 6, 6, 6, 6, 6, 6, 6, 6, 6, 6, 6, 6, 6, 7, 7, 7, 7, 7, 7, 7, 7, 7, 7, 7, 7, 7, 7, 7, 7, 7, 7, 7, 7, 7, 7, 7, 7, 7, 7, 7, 7, 7, 7, 7, 7, 7, 7, 7, 7, 7, 7, 7, 7, 7, 7, 7, 7, 7, 7, 7, 7, 7, 7, 7, 7, 7, 7, 7, 7, 7, 7, 7, 7, 7, 7, 7, 7, 8, 8, 8, 8, 8, 8, 8, 8, 8, 8, 8, 8, 8, 8, 8, 8, 8, 8, 8, 8, 8, 8, 8, 8, 8, 8, 8, 8, 8, 8, 8, 8, 8, 8, 8, 8, 8, 8, 8, 8, 8, 8, 8, 8, 8, 8, 8, 8, 8, 8, 8, 8, 8, 8, 8, 8, 8, 8, 8, 8, 8, 8, 8, 8, 8, 8, 8, 8, 8, 8, 8, 8, 8, 8, 8, 8, 8, 8, 8, 8, 8, 8, 8, 8, 8, 8, 8, 8, 8, 8, 8, 8, 8, 8, 8, 8, 8, 8, 8, 8, 8, 8, 8, 8, 8, 8, 8, 8, 8, 8, 8, 8, 8, 8, 8, 8, 8, 8, 8, 8, 8, 8, 8, 8, 8, 8, 8, 8]⟩)) (.conv .u8 (.var 0)))), (.idxStr (.const (.string ⟨#[0, 1, 2, 2, 3, 3, 3, 3, 4, 4, 4, 4, 4, 4, 4, 4, 5, 5, 5, 5, 5, 5, 5, 5, 5, 5, 5, 5, 5, 5, 5, 5, 6, 6, 6, 6, 6, 6, 6, 6, 6, 6, 6, 6, 6, 6, 6, 6, 6, 6, 6, 6, 6, 6, 6, 6, 6, 6, 6, 6, 6, 6, 6, 6, 7, 7, 7, 7, 7, 7, 7, 7, 7, 7, 7, 7, 7, 7, 7, 7, 7, 7, 7, 7, 7, 7, 7, 7, 7, 7, 7, 7, 7, 7, 7, 7, 7, 7, 7, 7, 7, 7, 7, 7, 7, 7, 7, 7, 7, 7, 7, 7, 7, 7, 7, 7, 7, 7, 7, 7, 7, 7, 7, 7, 7, 7, 7, 7, 8, 8, 8, 8, 8, 8, 8, 8, 8, 8, 8, 8, 8, 8, 8, 8, 8, 8, 8, 8, 8, 8, 8, 8, 8, 8, 8, 8, 8, 8, 8, 8, 8, 8, 8, 8, 8, 8, 8, 8, 8, 8, 8, 8, 8, 8, 8, 8, 8, 8, 8, 8, 8, 8, 8, 8, 8, 8, 8, 8, 8, 8, 8, 8, 8, 8, 8, 8, 8, 8, 8, 8, 8, 8, 8, 8, 8, 8, 8, 8, 8, 8, 8, 8, 8, 8, 8, 8, 8, 8, 8, 8, 8, 8, 8, 8, 8, 8, 8, 8, 8, 8, 8, 8, 8, 8, 8, 8, 8, 8, 8, 8, 8, 8, 8, 8, 8, 8, 8, 8, 8, 8, 8, 8, 8, 8, 8, 8]⟩)) (.conv .u8 (.var 0)))])
 (.set 1 (.bin .add (.var 1) (.conv .i64 (.idxStr (.const (.string ⟨#[0, 1, 2, 2, 3, 3, 3, 3, 4, 4, 4, 4, 4, 4, 4, 4, 5, 5, 5, 5, 5, 5, 5, 5, 5, 5, 5, 5, 5, 5, 5, 5, 6, 6, 6, 6, 6, 6, 6, 6, 6, 6, 6, 6, 6, 6, 6, 6, 6, 6, 6, 6, 6, 6, 6, 6, 6, 6, 6, 6, 6, 6, 6, 6, 7, 7, 7, 7, 7, 7, 7, 7, 7, 7, 7, 7, 7, 7, 7, 7, 7, 7, 7, 7, 7, 7, 7, 7, 7, 7, 7, 7, 7, 7, 7, 7, 7, 7, 7, 7, 7, 7, 7, 7, 7, 7, 7, 7, 7, 7, 7, 7, 7, 7, 7, 7, 7, 7, 7, 7, 7, 7, 7, 7, 7, 7, 7, 7, 8, 8, 8, 8, 8, 8, 8, 8, 8, 8, 8, 8, 8, 8, 8, 8, 8, 8, 8, 8, 8, 8, 8, 8, 8, 8, 8, 8, 8, 8, 8, 8, 8, 8, 8, 8, 8, 8, 8, 8, 8, 8, 8, 8, 8, 8, 8, 8, 8, 8, 8, 8, 8, 8, 8, 8, 8, 8, 8, 8, 8, 8, 8, 8, 8, 8, 8, 8, 8, 8, 8, 8, 8, 8, 8, 8, 8, 8, 8, 8, 8, 8, 8, 8, 8, 8, 8, 8, 8, 8, 8, 8, 8, 8, 8, 8, 8, 8, 8, 8, 8, 8, 8, 8, 8, 8, 8, 8, 8, 8, 8, 8, 8, 8, 8, 8, 8, 8, 8, 8, 8, 8, 8, 8, 8, 8, 8, 8]⟩)) (.conv .u8 (.var 0)))))))
 .ret))))),
  [(.var 1)]⟩
theorem okx_216 : FnOk Tryz.prog 3 365 216 xf216 := fnOk_of Tryz.func216 (np := 1) (V := [0, 2]) (ks := []) (by kernel_rfl)

/- slices.pdqsortOrdered[int32] -/
def xf217 : XF := ⟨4, [0, 1, 2, 3, 8, 9, 10, 46, 11, 12, 72, 85, 92, 13, 99, 14, 15, 16, 17, 18],
  (.seq
 (.set 4 (.const (.bool true)))
 (.seq
 (.set 5 (.const (.bool true)))
 (.block 0
 (.loop [0, 1, 2, 3, 4, 5]
 (.block 1
 (.seq
 (.set 6 (.bin .sub (.var 2) (.var 1)))
 (.seq
 (.cond (.bin .leq (.var 6) (.const (.int .i64 12)))
 (.seq
 (.call none 267 [(.var 0), (.var 1), (.var 2)] [])
 .ret)
 .skip)
 (.seq
 (.cond (.bin .eql (.var 3) (.const (.int .i64 0)))
 (.seq
 (.call none 268 [(.var 0), (.var 1), (.var 2)] [])
 .ret)
 .skip)
 (.seq
 (.cond (.un .not (.var 4))
 (.seq
 (.call none 269 [(.var 0), (.var 1), (.var 2)] [])
 (.set 3 (.bin .sub (.var 3) (.const (.int .i64 1)))))
 .skip)
 (.seq
 (.seq
 (.call (some 7) 270 [(.var 0), (.var 1), (.var 2)] [])
 (.seq
 (.chk [(.proj 1 (.var 7))])
 (.seq
 (.set 8 (.proj 0 (.var 7)))
 (.set 9 (.proj 1 (.var 7))))))
 (.seq
 (.cond (.bin .eql (.var 9) (.const (.int .i64 2)))
 (.seq
 (.call none 271 [(.var 0), (.var 1), (.var 2)] [])
 (.seq
 (.set 8 (.bin .sub (.bin .sub (.var 2) (.const (.int .i64 1))) (.bin .sub (.var 8) (.var 1))))
 (.set 9 (.const (.int .i64 1)))))
 .skip)
 (.seq
 (.cond (.pick (.pick (.var 4) (.var 5) (.const (.bool false))) (.bin .eql (.var 9) (.const (.int .i64 1))) (.const (.bool false)))
 (.seq
 (.call (some 10) 272 [(.var 0), (.var 1), (.var 2)] [])
 (.cond (.var 10)
 .ret
 .skip))
 .skip)
 (.seq
 (.seq
 (.seq
 .skip
 (.seq
 (.chk [(.pick (.bin .gtr (.var 1) (.const (.int .i64 0))) (.ld none (.ixSl 1 (.var 0) (.var 8))) (.const (.bool false))), (.pick (.bin .gtr (.var 1) (.const (.int .i64 0))) (.ld none (.ixSl 1 (.var 0) (.bin .sub (.var 1) (.const (.int .i64 1))))) (.const (.bool false)))])
 (.cond (.pick (.bin .gtr (.var 1) (.const (.int .i64 0))) (.const (.bool true)) (.const (.bool false)))
 (.call (some 11) 273 [(.ld none (.ixSl 1 (.var 0) (.bin .sub (.var 1) (.const (.int .i64 1))))), (.ld none (.ixSl 1 (.var 0) (.var 8)))] [])
 (.clr [11]))))
 (.cond (.pick (.bin .gtr (.var 1) (.const (.int .i64 0))) (.un .not (.var 11)) (.const (.bool false)))
 (.seq
 (.seq
 (.call (some 12) 274 [(.var 0), (.var 1), (.var 2), (.var 8)] [])
 (.set 13 (.var 12)))
 (.seq
 (.set 1 (.var 13))
 (.exit 1)))
 .skip))
 (.seq
 (.seq
 (.call (some 14) 275 [(.var 0), (.var 1), (.var 2), (.var 8)] [])
 (.seq
 (.chk [(.proj 1 (.var 14))])
 (.seq
 (.set 15 (.proj 0 (.var 14)))
 (.set 16 (.proj 1 (.var 14))))))
 (.seq
 (.set 5 (.var 16))
 (.seq
 (.seq
 (.chk [(.bin .sub (.var 2) (.var 15))])
 (.seq
 (.set 17 (.bin .sub (.var 15) (.var 1)))
 (.set 18 (.bin .sub (.var 2) (.var 15)))))
 (.seq
 (.set 19 (.bin .quo (.var 6) (.const (.int .i64 8))))
 (.cond (.bin .lss (.var 17) (.var 18))
 (.seq
 (.set 4 (.bin .geq (.var 17) (.var 19)))
 (.seq
 (.call none 217 [(.var 0), (.var 1), (.var 15), (.var 3)] [])
 (.set 1 (.bin .add (.var 15) (.const (.int .i64 1))))))
 (.seq
 (.set 4 (.bin .geq (.var 18) (.var 19)))
 (.seq
 (.call none 217 [(.var 0), (.bin .add (.var 15) (.const (.int .i64 1))), (.var 2), (.var 3)] [])
 (.set 2 (.var 15)))))))))))))))))))))),
  []⟩
theorem okx_217 : FnOk Tryz.prog 3 365 217 xf217 := fnOk_of Tryz.func217 (np := 4) (V := [0, 1, 2, 3, 8, 9, 10, 46, 11, 12, 72, 85, 92, 13, 99, 14, 15, 16, 17, 18]) (ks := [[0, 1, 2, 3, 4, 5]]) (by kernel_rfl)

/- tipstaff/shape.one -/
def xf219 : XF := ⟨2, [0, 1, 4, 5, 12, 15, 6, 22, 20, 19, 23, 29, 26, 37, 38, 43, 44, 49, 7, 8, 53, 57, 58, 62, 63, 73],
  (.seq
 (.set 2 (.const (.bool false)))
 (.seq
 (.seq
 (.set 4 (.ld (some 5) (.ixSl 5 (.var 0) (.var 1))))
 (.seq
 (.new (some 3) 46 (.const zA2))
 (.store 5 (.var 3) (.var 4) [])))
 (.seq
 (.seq
 (.call (some 5) 160 [(.ld none (.offp 0 (.var 3)))] [])
 (.seq
 (.new (some 6) 287 (.const zA3))
 (.store 5 (.var 6) (.var 5) [])))
 (.seq
 (.seq
 (.seq
 .skip
 (.seq
 (.set 9 (.bin .eql (.ld none (.offp 0 (.var 6))) (.const (.int .i64 0))))
 (.seq
 (.cond (.pick (.var 9) (.const (.bool false)) (.const (.bool true)))
 (.set 8 (.ld (some 5) (.var 3)))
 (.clr [8]))
 (.seq
 (.chk [(.pick (.var 9) (.const (.bool false)) (.ld (some 5) (.var 6)))])
 (.seq
 (.cond (.pick (.var 9) (.const (.bool false)) (.const (.bool true)))
 (.call (some 7) 277 [(.ld (some 5) (.var 6))] [(.ld (some 5) (.var 3))])
 (.clr [7]))
 (.seq
 (.cond (.pick (.var 9) (.const (.bool false)) (.const (.bool true)))
 (.call (some 10) 276 [(.var 8), (.var 7)] [])
 (.clr [10]))
 (.seq
 (.set 12 (.pick (.var 9) (.const (.bool true)) (.un .not (.var 10))))
 (.seq
 (.chk [(.pick (.var 12) (.const (.bool false)) (.ld none (.offp 0 (.var 6))))])
 (.cond (.pick (.var 12) (.const (.bool false)) (.const (.bool true)))
 (.call (some 11) 278 [(.ld none (.offp 0 (.var 6)))] [])
 (.clr [11]))))))))))
 (.cond (.pick (.var 12) (.const (.bool true)) (.pick (.var 11) (.bin .eql (.ld none (.offp 1 (.var 3))) (.const (.int .u8 10))) (.const (.bool false))))
 (.seq
 (.set 2 (.const (.bool false)))
 .ret)
 .skip))
 (.seq
 (.seq
 (.set 13 (.ld none (.offp 0 (.var 6))))
 (.block 0
 (.seq
 (.set 14 (.bin .eql (.var 13) (.const (.int .i64 1))))
 (.cond (.var 14)
 (.seq
 (.seq
 (.call (some 15) 279 [(.ld (some 5) (.var 6)), (.ld none (.offp 4 (.var 3)))] [])
 (.set 2 (.var 15)))
 .ret)
 (.seq
 (.set 16 (.bin .eql (.var 13) (.const (.int .i64 4))))
 (.cond (.var 16)
 (.seq
 (.seq
 (.call (some 17) 280 [(.ld none (.offp 4 (.var 3)))] [])
 (.seq
 (.chk [(.proj 1 (.var 17))])
 (.seq
 (.set 18 (.proj 0 (.var 17)))
 (.set 19 (.proj 1 (.var 17))))))
 (.seq
 (.set 2 (.var 19))
 .ret))
 (.seq
 (.set 20 (.bin .eql (.var 13) (.const (.int .i64 8))))
 (.cond (.var 20)
 (.seq
 (.seq
 (.call (some 21) 281 [(.ld none (.offp 4 (.var 3)))] [])
 (.set 2 (.var 21)))
 .ret)
 (.seq
 (.set 22 (.bin .eql (.var 13) (.const (.int .i64 9))))
 (.cond (.var 22)
 (.seq
 (.seq
 (.call (some 23) 282 [(.var 0), (.var 1)] [])
 (.set 2 (.var 23)))
 .ret)
 (.seq
 (.set 24 (.bin .eql (.var 13) (.const (.int .i64 10))))
 (.cond (.var 24)
 (.seq
 (.seq
 (.chk [(.pick (.bin .gtr (.var 1) (.const (.int .i64 0))) (.ld (some 5) (.ixSl 5 (.var 0) (.bin .sub (.var 1) (.const (.int .i64 1))))) (.const (.bool false)))])
 (.seq
 (.cond (.pick (.bin .gtr (.var 1) (.const (.int .i64 0))) (.const (.bool true)) (.const (.bool false)))
 (.call (some 25) 221 [(.ld (some 5) (.ixSl 5 (.var 0) (.bin .sub (.var 1) (.const (.int .i64 1)))))] [])
 (.clr [25]))
 (.set 2 (.pick (.bin .gtr (.var 1) (.const (.int .i64 0))) (.bin .eql (.var 25) (.const (.int .i64 9))) (.const (.bool false))))))
 .ret)
 .skip))))))))))))
 (.seq
 (.set 2 (.const (.bool true)))
 .ret)))))),
  [(.var 2)]⟩
theorem okx_219 : FnOk Tryz.prog 3 365 219 xf219 := fnOk_of Tryz.func219 (np := 2) (V := [0, 1, 4, 5, 12, 15, 6, 22, 20, 19, 23, 29, 26, 37, 38, 43, 44, 49, 7, 8, 53, 57, 58, 62, 63, 73]) (ks := []) (by kernel_rfl)

/- tipstaff/shape.lands -/
def xf220 : XF := ⟨2, [0, 1, 4, 11, 5, 23, 6, 37],
  (.seq
 (.set 2 (.const (.bool false)))
 (.seq
 (.seq
 (.seq
 (.call (some 3) 221 [(.ld (some 5) (.ixSl 5 (.var 0) (.var 1)))] [])
 (.set 4 (.var 3)))
 (.cond (.pick (.bin .neq (.var 4) (.const (.int .i64 2))) (.bin .neq (.var 4) (.const (.int .i64 3))) (.const (.bool false)))
 (.seq
 (.set 2 (.const (.bool true)))
 .ret)
 .skip))
 (.seq
 (.seq
 (.call (some 5) 163 [(.var 1), (.ld (some 5) (.ixSl 5 (.var 0) (.var 1)))] [])
 (.set 6 (.var 5)))
 (.seq
 (.seq
 (.chk [(.pick (.pick (.bin .geq (.var 6) (.const (.int .i64 0))) (.bin .lss (.var 6) (.len false (.var 0))) (.const (.bool false))) (.ld (some 5) (.ixSl 5 (.var 0) (.var 6))) (.const (.bool false)))])
 (.seq
 (.cond (.pick (.pick (.bin .geq (.var 6) (.const (.int .i64 0))) (.bin .lss (.var 6) (.len false (.var 0))) (.const (.bool false))) (.const (.bool true)) (.const (.bool false)))
 (.call (some 7) 221 [(.ld (some 5) (.ixSl 5 (.var 0) (.var 6)))] [])
 (.clr [7]))
 (.set 2 (.pick (.pick (.bin .geq (.var 6) (.const (.int .i64 0))) (.bin .lss (.var 6) (.len false (.var 0))) (.const (.bool false))) (.bin .neq (.var 7) (.const (.int .i64 10))) (.const (.bool false))))))
 .ret)))),
  [(.var 2)]⟩
theorem okx_220 : FnOk Tryz.prog 3 365 220 xf220 := fnOk_of Tryz.func220 (np := 2) (V := [0, 1, 4, 11, 5, 23, 6, 37]) (ks := []) (by kernel_rfl)

/- tipstaff/shape.kind -/
def xf221 : XF := ⟨1, [0, 2, 1, 5],
  (.seq
 (.seq
 (.new (some 2) 46 (.var 0))
 (.set 1 (.const (.int .i64 0))))
 (.seq
 (.seq
 (.call (some 3) 160 [(.ld none (.offp 0 (.var 2)))] [])
 (.set 1 (.part none 0 (.var 3))))
 .ret)),
  [(.var 1)]⟩
theorem okx_221 : FnOk Tryz.prog 3 365 221 xf221 := fnOk_of Tryz.func221 (np := 1) (V := [0, 2, 1, 5]) (ks := []) (by kernel_rfl)

/- tipstaff/cfg.walked -/
def xf222 : XF := ⟨1, [0, 2, 7, 9, 3],
  (.seq
 (.set 1 (.const (.pointer none)))
 (.seq
 (.seq
 (.mk (some 2) 3 [(.int .i64 0)] (.len false (.var 0)) (.len false (.var 0)) [])
 (.seq
 (.chk [(.upd 1 1 (.upd 0 1 (.const (.agg #[(.slice none 0 0), (.slice none 0 0), (.bool false)])) (.var 0)) (.var 2))])
 (.seq
 (.new (some 3) 348 (.upd 1 1 (.upd 0 1 (.const (.agg #[(.slice none 0 0), (.slice none 0 0), (.bool false)])) (.var 0)) (.var 2)))
 (.set 4 (.var 3)))))
 (.seq
 (.cond (.bin .gtr (.len false (.var 0)) (.const (.int .i64 0)))
 (.call none 283 [(.var 4), (.const (.int .i64 0))] [])
 .skip)
 (.seq
 (.set 1 (.var 4))
 .ret)))),
  [(.var 1)]⟩
theorem okx_222 : FnOk Tryz.prog 3 365 222 xf222 := fnOk_of Tryz.func222 (np := 1) (V := [0, 2, 7, 9, 3]) (ks := []) (by kernel_rfl)

/- tipstaff/cfg.kind -/
def xf223 : XF := ⟨1, [0, 2, 1, 5],
  (.seq
 (.seq
 (.new (some 2) 46 (.var 0))
 (.set 1 (.const (.int .i64 0))))
 (.seq
 (.seq
 (.call (some 3) 160 [(.ld none (.offp 0 (.var 2)))] [])
 (.set 1 (.part none 0 (.var 3))))
 .ret)),
  [(.var 1)]⟩
theorem okx_223 : FnOk Tryz.prog 3 365 223 xf223 := fnOk_of Tryz.func223 (np := 1) (V := [0, 2, 1, 5]) (ks := []) (by kernel_rfl)

/- slices.ContainsFunc[[]tipstaff/absreg.State,tipstaff/absreg.State] -/
def xf224 : XF := ⟨2, [0, 1, 4, 7],
  (.seq
 (.set 2 (.const (.bool false)))
 (.seq
 (.seq
 (.call (some 3) 284 [(.var 0), (.var 1)] [])
 (.set 2 (.bin .geq (.var 3) (.const (.int .i64 0)))))
 .ret)),
  [(.var 2)]⟩
theorem okx_224 : FnOk Tryz.prog 3 365 224 xf224 := fnOk_of Tryz.func224 (np := 2) (V := [0, 1, 4, 7]) (ks := []) (by kernel_rfl)

/- (*tipstaff/verify.checker).alu -/
def xf227 : XF := ⟨4, [0, 1, 2, 3, 8, 9, 5, 6, 7, 26, 10, 11, 20, 22, 23, 25, 35, 52, 12, 58, 65, 13, 14, 84, 16],
  (.seq
 (.seq
 (.new (some 6) 265 (.var 1))
 (.seq
 (.new (some 7) 46 (.var 2))
 (.seq
 (.new (some 8) 287 (.var 3))
 (.seq
 (.set 4 (.const (.slice none 0 0)))
 (.set 5 (.const (.bool false)))))))
 (.seq
 (.seq
 .skip
 (.seq
 (.set 24 (.ld none (.offp 1 (.var 7))))
 (.seq
 (.set 12 (.ld (some 11) (.ixArr 11 11 (.offp 0 (.offp 1 (.var 6))) (.var 24))))
 (.seq
 (.set 13 (.ld (some 273) (.offp 1 (.var 6))))
 (.seq
 (.set 14 (.ld (some 5) (.var 7)))
 (.seq
 (.set 15 (.ld none (.offp 4 (.var 8))))
 (.seq
 (.resv 2)
 (.seq
 (.seq
 (.set 10 (.const (.bool true)))
 (.seq
 (.set 11 (.const (.bool true)))
 .skip))
 (.seq
 (.chk [(.var 10), (.var 11)])
 (.seq
 (.clr [10, 11])
 (.seq
 (.chk [(.const zA9), (.const zA9)])
 (.seq
 (.call (some 9) 233 [(.var 13), (.var 14), (.var 15)] [(.ld none (.offp 4 (.var 8))), (.ld (some 5) (.var 7)), (.ld (some 273) (.offp 1 (.var 6))), (.ld (some 11) (.ixArr 11 11 (.offp 0 (.offp 1 (.var 6))) (.var 24))), (.ld none (.offp 1 (.var 7)))])
 (.seq
 (.newR 0 10 257 (.const zA9))
 (.seq
 (.newR 1 11 257 (.const zA9))
 (.seq
 (.store 11 (.var 10) (.var 12) [])
 (.seq
 (.store 11 (.var 11) (.var 9) [])
 .skip))))))))))))))))
 (.seq
 (.cond (.pick (.bin .eql (.ld none (.offp 1 (.var 8))) (.const (.int .i64 11))) (.bin .eql (.ld none (.offp 0 (.var 11))) (.const (.int .i64 1))) (.const (.bool false)))
 (.seq
 (.call (some 16) 286 [(.const (.int .u64 0))] [])
 (.store 11 (.var 10) (.var 16) []))
 .skip)
 (.seq
 (.cond (.pick (.bin .eql (.ld none (.offp 0 (.var 10))) (.const (.int .i64 1))) (.bin .eql (.ld none (.offp 0 (.var 11))) (.const (.int .i64 1))) (.const (.bool false)))
 (.seq
 (.seq
 (.call (some 17) 287 [(.ld none (.offp 1 (.var 8))), (.ld none (.offp 3 (.var 8))), (.ld (some 6) (.offp 1 (.var 10))), (.ld (some 6) (.offp 1 (.var 11)))] [])
 (.seq
 (.chk [(.upd 1 6 (.upd 0 1 (.const zA9) (.const (.int .i64 1))) (.var 17))])
 (.seq
 (.new (some 18) 257 (.const zA9))
 (.store 11 (.var 18) (.upd 1 6 (.upd 0 1 (.const zA9) (.const (.int .i64 1))) (.var 17)) []))))
 (.seq
 (.seq
 (.call (some 19) 288 [(.ld (some 274) (.var 6)), (.ld none (.offp 1 (.var 7))), (.ld (some 11) (.var 18)), (.const (.int .i64 1))] [])
 (.seq
 (.set 4 (.var 19))
 (.set 5 (.const (.bool true)))))
 .ret))
 .skip)
 (.seq
 (.seq
 (.call (some 20) 289 [(.var 0), (.ld none (.offp 1 (.var 8))), (.ld (some 11) (.var 10)), (.ld (some 11) (.var 11))] [])
 (.seq
 (.chk [(.proj 1 (.var 20)), (.proj 0 (.var 20))])
 (.seq
 (.new (some 21) 257 (.const zA9))
 (.seq
 (.store 11 (.var 21) (.proj 0 (.var 20)) [])
 (.set 22 (.proj 1 (.var 20)))))))
 (.seq
 (.cond (.pick (.pick (.un .not (.var 22)) (.const (.bool true)) (.un .not (.ld none (.offp 3 (.var 8))))) (.const (.bool true)) (.bin .eql (.ld none (.offp 1 (.var 8))) (.const (.int .i64 8))))
 (.seq
 (.seq
 (.set 4 (.const (.slice none 0 0)))
 (.set 5 (.const (.bool false))))
 .ret)
 .skip)
 (.seq
 (.seq
 (.call (some 23) 288 [(.ld (some 274) (.var 6)), (.ld none (.offp 1 (.var 7))), (.ld (some 11) (.var 21)), (.const (.int .i64 1))] [])
 (.seq
 (.set 4 (.var 23))
 (.set 5 (.const (.bool true)))))
 .ret))))))),
  [(.var 4), (.var 5)]⟩
theorem okx_227 : FnOk Tryz.prog 3 365 227 xf227 := fnOk_of Tryz.func227 (np := 4) (V := [0, 1, 2, 3, 8, 9, 5, 6, 7, 26, 10, 11, 20, 22, 23, 25, 35, 52, 12, 58, 65, 13, 14, 84, 16]) (ks := []) (by kernel_rfl)

/- tipstaff/verify.second -/
def xf233 : XF := ⟨3, [0, 1, 2, 6, 3, 4, 17],
  (.seq
 (.seq
 (.new (some 4) 262 (.var 0))
 (.seq
 (.new (some 5) 46 (.var 1))
 (.new (some 3) 257 (.const zA9))))
 (.seq
 (.cond (.var 2)
 (.seq
 (.store 11 (.var 3) (.ld (some 11) (.ixArr 11 11 (.offp 0 (.var 4)) (.ld none (.offp 2 (.var 5))))) [])
 .ret)
 .skip)
 (.seq
 (.seq
 (.call (some 6) 286 [(.conv .u64 (.conv .i64 (.ld none (.offp 4 (.var 5)))))] [])
 (.store 11 (.var 3) (.var 6) []))
 .ret))),
  [(.ld (some 11) (.var 3))]⟩
theorem okx_233 : FnOk Tryz.prog 3 365 233 xf233 := fnOk_of Tryz.func233 (np := 3) (V := [0, 1, 2, 6, 3, 4, 17]) (ks := []) (by kernel_rfl)

/- tipstaff/scalar.plain -/
def xf244 : XF := ⟨3, [0, 1, 2, 6, 7, 8, 13, 18, 23, 28, 33, 37, 42, 45, 52],
  (.seq
 (.set 3 (.const (.int .u64 0)))
 (.seq
 (.seq
 (.set 4 (.var 0))
 (.block 0
 (.seq
 (.set 5 (.bin .eql (.var 4) (.const (.int .i64 0))))
 (.cond (.var 5)
 (.seq
 (.set 3 (.bin .add (.var 1) (.var 2)))
 .ret)
 (.seq
 (.set 6 (.bin .eql (.var 4) (.const (.int .i64 1))))
 (.cond (.var 6)
 (.seq
 (.set 3 (.bin .sub (.var 1) (.var 2)))
 .ret)
 (.seq
 (.set 7 (.bin .eql (.var 4) (.const (.int .i64 2))))
 (.cond (.var 7)
 (.seq
 (.set 3 (.bin .mul (.var 1) (.var 2)))
 .ret)
 (.seq
 (.set 8 (.bin .eql (.var 4) (.const (.int .i64 4))))
 (.cond (.var 8)
 (.seq
 (.set 3 (.bin .or (.var 1) (.var 2)))
 .ret)
 (.seq
 (.set 9 (.bin .eql (.var 4) (.const (.int .i64 5))))
 (.cond (.var 9)
 (.seq
 (.set 3 (.bin .and (.var 1) (.var 2)))
 .ret)
 (.seq
 (.set 10 (.bin .eql (.var 4) (.const (.int .i64 8))))
 (.cond (.var 10)
 (.seq
 (.set 3 (.un .neg (.var 1)))
 .ret)
 (.seq
 (.set 11 (.bin .eql (.var 4) (.const (.int .i64 10))))
 (.cond (.var 11)
 (.seq
 (.set 3 (.bin .xor (.var 1) (.var 2)))
 .ret)
 (.seq
 (.set 12 (.bin .eql (.var 4) (.const (.int .i64 11))))
 (.cond (.var 12)
 (.seq
 (.set 3 (.var 2))
 .ret)
 (.seq
 (.set 13 (.bin .eql (.var 4) (.const (.int .i64 3))))
 (.cond (.var 13)
 (.cond (.bin .neq (.var 2) (.const (.int .u64 0)))
 (.seq
 (.set 3 (.bin .quo (.var 1) (.var 2)))
 .ret)
 .skip)
 (.seq
 (.set 14 (.bin .eql (.var 4) (.const (.int .i64 9))))
 (.cond (.var 14)
 (.seq
 (.cond (.bin .neq (.var 2) (.const (.int .u64 0)))
 (.seq
 (.set 3 (.bin .rem (.var 1) (.var 2)))
 .ret)
 .skip)
 (.seq
 (.set 3 (.var 1))
 .ret))
 .skip))))))))))))))))))))))
 (.seq
 (.set 3 (.const (.int .u64 0)))
 .ret))),
  [(.var 3)]⟩
theorem okx_244 : FnOk Tryz.prog 3 365 244 xf244 := fnOk_of Tryz.func244 (np := 3) (V := [0, 1, 2, 6, 7, 8, 13, 18, 23, 28, 33, 37, 42, 45, 52]) (ks := []) (by kernel_rfl)

/- slices.insertionSortOrdered[int32] -/
def xf267 : XF := ⟨3, [0, 1, 2, 6, 7, 29, 46],
  (.seq
 (.set 3 (.bin .add (.var 1) (.const (.int .i64 1))))
 (.block 0
 (.loop [0, 1, 2, 3]
 (.seq
 (.cond (.bin .lss (.var 3) (.var 2))
 .skip
 (.exit 0))
 (.seq
 (.block 1
 (.seq
 (.set 4 (.var 3))
 (.block 2
 (.loop [0, 1, 2, 3, 4]
 (.seq
 (.seq
 (.seq
 .skip
 (.seq
 (.chk [(.pick (.bin .gtr (.var 4) (.var 1)) (.ld none (.ixSl 1 (.var 0) (.bin .sub (.var 4) (.const (.int .i64 1))))) (.const (.bool false))), (.pick (.bin .gtr (.var 4) (.var 1)) (.ld none (.ixSl 1 (.var 0) (.var 4))) (.const (.bool false)))])
 (.cond (.pick (.bin .gtr (.var 4) (.var 1)) (.const (.bool true)) (.const (.bool false)))
 (.call (some 5) 273 [(.ld none (.ixSl 1 (.var 0) (.var 4))), (.ld none (.ixSl 1 (.var 0) (.bin .sub (.var 4) (.const (.int .i64 1)))))] [])
 (.clr [5]))))
 (.cond (.pick (.bin .gtr (.var 4) (.var 1)) (.var 5) (.const (.bool false)))
 .skip
 (.exit 2)))
 (.seq
 (.block 3
 (.seq
 .skip
 (.seq
 (.chk [(.ld none (.ixSl 1 (.var 0) (.bin .sub (.var 4) (.const (.int .i64 1)))))])
 (.seq
 (.set 6 (.ld none (.ixSl 1 (.var 0) (.var 4))))
 (.seq
 (.store 1 (.ixSl 1 (.var 0) (.var 4)) (.ld none (.ixSl 1 (.var 0) (.bin .sub (.var 4) (.const (.int .i64 1))))) [])
 (.store 1 (.ixSl 1 (.var 0) (.bin .sub (.var 4) (.const (.int .i64 1)))) (.var 6) []))))))
 (.set 4 (.bin .sub (.var 4) (.const (.int .i64 1))))))))))
 (.set 3 (.bin .add (.var 3) (.const (.int .i64 1))))))))),
  []⟩
theorem okx_267 : FnOk Tryz.prog 3 365 267 xf267 := fnOk_of Tryz.func267 (np := 3) (V := [0, 1, 2, 6, 7, 29, 46]) (ks := [[0, 1, 2, 3], [0, 1, 2, 3, 4]]) (by kernel_rfl)

/- tipstaff/shape.plain -/
def xf276 : XF := ⟨2, [0, 1, 4, 2, 3, 5, 14, 33],
  (.seq
 (.seq
 (.new (some 3) 46 (.var 0))
 (.seq
 (.new (some 4) 393 (.var 1))
 (.set 2 (.const (.bool false)))))
 (.seq
 (.block 0
 (.seq
 (.set 5 (.pick (.bin .geq (.ld none (.offp 1 (.var 3))) (.const (.int .u8 11))) (.const (.bool true)) (.bin .geq (.ld none (.offp 2 (.var 3))) (.const (.int .u8 11)))))
 (.cond (.var 5)
 .skip
 (.seq
 (.set 6 (.pick (.pick (.un .not (.ld none (.offp 0 (.var 4)))) (.bin .neq (.ld none (.offp 1 (.var 3))) (.const (.int .u8 0))) (.const (.bool false))) (.const (.bool true)) (.pick (.un .not (.ld none (.offp 1 (.var 4)))) (.bin .neq (.ld none (.offp 2 (.var 3))) (.const (.int .u8 0))) (.const (.bool false)))))
 (.cond (.var 6)
 .skip
 (.seq
 (.set 7 (.pick (.pick (.un .not (.ld none (.offp 2 (.var 4)))) (.bin .neq (.ld none (.offp 3 (.var 3))) (.const (.int .i16 0))) (.const (.bool false))) (.const (.bool true)) (.pick (.un .not (.ld none (.offp 3 (.var 4)))) (.bin .neq (.ld none (.offp 4 (.var 3))) (.const (.int .i32 0))) (.const (.bool false)))))
 (.cond (.var 7)
 .skip
 (.seq
 (.set 2 (.const (.bool true)))
 .ret))))))))
 (.seq
 (.set 2 (.const (.bool false)))
 .ret))),
  [(.var 2)]⟩
theorem okx_276 : FnOk Tryz.prog 3 365 276 xf276 := fnOk_of Tryz.func276 (np := 2) (V := [0, 1, 4, 2, 3, 5, 14, 33]) (ks := []) (by kernel_rfl)

/- tipstaff/shape.named -/
def xf277 : XF := ⟨1, [0, 2, 1, 4, 5, 18, 27, 30, 34, 37, 40],
  (.seq
 (.seq
 (.new (some 2) 287 (.var 0))
 (.new (some 1) 393 (.const (.agg (Array.replicate 4 (.bool false))))))
 (.seq
 (.seq
 (.set 3 (.ld none (.offp 0 (.var 2))))
 (.block 0
 (.seq
 (.set 4 (.bin .eql (.var 3) (.const (.int .i64 1))))
 (.cond (.var 4)
 (.seq
 (.seq
 (.chk [(.upd 3 1 (.upd 2 1 (.upd 1 1 (.upd 0 1 (.const (.agg (Array.replicate 4 (.bool false)))) (.const (.bool true))) (.ld none (.offp 4 (.var 2)))) (.const (.bool false))) (.pick (.un .not (.ld none (.offp 4 (.var 2)))) (.bin .neq (.ld none (.offp 1 (.var 2))) (.const (.int .i64 8))) (.const (.bool false))))])
 (.store 4 (.var 1) (.upd 3 1 (.upd 2 1 (.upd 1 1 (.upd 0 1 (.const (.agg (Array.replicate 4 (.bool false)))) (.const (.bool true))) (.ld none (.offp 4 (.var 2)))) (.const (.bool false))) (.pick (.un .not (.ld none (.offp 4 (.var 2)))) (.bin .neq (.ld none (.offp 1 (.var 2))) (.const (.int .i64 8))) (.const (.bool false)))) []))
 .ret)
 (.seq
 (.seq
 (.set 5 (.bin .eql (.var 3) (.const (.int .i64 2))))
 (.cond (.var 5)
 .skip
 (.set 5 (.bin .eql (.var 3) (.const (.int .i64 7))))))
 (.cond (.var 5)
 (.seq
 (.seq
 (.chk [(.upd 3 1 (.upd 2 1 (.upd 1 1 (.upd 0 1 (.const (.agg (Array.replicate 4 (.bool false)))) (.const (.bool true))) (.ld none (.offp 4 (.var 2)))) (.const (.bool true))) (.un .not (.ld none (.offp 4 (.var 2)))))])
 (.store 4 (.var 1) (.upd 3 1 (.upd 2 1 (.upd 1 1 (.upd 0 1 (.const (.agg (Array.replicate 4 (.bool false)))) (.const (.bool true))) (.ld none (.offp 4 (.var 2)))) (.const (.bool true))) (.un .not (.ld none (.offp 4 (.var 2))))) []))
 .ret)
 (.seq
 (.set 6 (.bin .eql (.var 3) (.const (.int .i64 3))))
 (.cond (.var 6)
 (.seq
 (.seq
 (.chk [(.upd 2 1 (.const (.agg (Array.replicate 4 (.bool false)))) (.const (.bool true)))])
 (.store 4 (.var 1) (.upd 2 1 (.const (.agg (Array.replicate 4 (.bool false)))) (.const (.bool true))) []))
 .ret)
 (.seq
 (.seq
 (.set 7 (.bin .eql (.var 3) (.const (.int .i64 4))))
 (.cond (.var 7)
 .skip
 (.set 7 (.bin .eql (.var 3) (.const (.int .i64 10))))))
 (.cond (.var 7)
 (.seq
 (.seq
 (.chk [(.upd 3 1 (.const (.agg (Array.replicate 4 (.bool false)))) (.const (.bool true)))])
 (.store 4 (.var 1) (.upd 3 1 (.const (.agg (Array.replicate 4 (.bool false)))) (.const (.bool true))) []))
 .ret)
 (.seq
 (.set 8 (.bin .eql (.var 3) (.const (.int .i64 6))))
 (.cond (.var 8)
 (.seq
 (.seq
 (.chk [(.upd 3 1 (.upd 2 1 (.upd 1 1 (.upd 0 1 (.const (.agg (Array.replicate 4 (.bool false)))) (.const (.bool true))) (.const (.bool true))) (.const (.bool true))) (.const (.bool false)))])
 (.store 4 (.var 1) (.upd 3 1 (.upd 2 1 (.upd 1 1 (.upd 0 1 (.const (.agg (Array.replicate 4 (.bool false)))) (.const (.bool true))) (.const (.bool true))) (.const (.bool true))) (.const (.bool false))) []))
 .ret)
 (.seq
 (.set 9 (.bin .eql (.var 3) (.const (.int .i64 8))))
 (.cond (.var 9)
 (.seq
 (.seq
 (.chk [(.upd 3 1 (.upd 2 1 (.upd 1 1 (.upd 0 1 (.const (.agg (Array.replicate 4 (.bool false)))) (.const (.bool true))) (.const (.bool true))) (.const (.bool true))) (.const (.bool true)))])
 (.store 4 (.var 1) (.upd 3 1 (.upd 2 1 (.upd 1 1 (.upd 0 1 (.const (.agg (Array.replicate 4 (.bool false)))) (.const (.bool true))) (.const (.bool true))) (.const (.bool true))) (.const (.bool true))) []))
 .ret)
 (.seq
 (.set 10 (.bin .eql (.var 3) (.const (.int .i64 9))))
 (.cond (.var 10)
 (.seq
 (.seq
 (.chk [(.upd 3 1 (.upd 2 1 (.upd 1 1 (.upd 0 1 (.const (.agg (Array.replicate 4 (.bool false)))) (.const (.bool true))) (.const (.bool true))) (.const (.bool false))) (.const (.bool true)))])
 (.store 4 (.var 1) (.upd 3 1 (.upd 2 1 (.upd 1 1 (.upd 0 1 (.const (.agg (Array.replicate 4 (.bool false)))) (.const (.bool true))) (.const (.bool true))) (.const (.bool false))) (.const (.bool true))) []))
 .ret)
 .skip))))))))))))))))
 (.seq
 (.store 4 (.var 1) (.const (.agg (Array.replicate 4 (.bool false)))) [])
 .ret))),
  [(.ld (some 4) (.var 1))]⟩
theorem okx_277 : FnOk Tryz.prog 3 365 277 xf277 := fnOk_of Tryz.func277 (np := 1) (V := [0, 2, 1, 4, 5, 18, 27, 30, 34, 37, 40]) (ks := []) (by kernel_rfl)

/- tipstaff/shape.writes -/
def xf278 : XF := ⟨1, [0, 2],
  (.seq
 (.set 1 (.const (.bool false)))
 (.seq
 (.set 1 (.pick (.pick (.bin .eql (.var 0) (.const (.int .i64 1))) (.const (.bool true)) (.bin .eql (.var 0) (.const (.int .i64 6)))) (.const (.bool true)) (.bin .eql (.var 0) (.const (.int .i64 9)))))
 .ret)),
  [(.var 1)]⟩
theorem okx_278 : FnOk Tryz.prog 3 365 278 xf278 := fnOk_of Tryz.func278 (np := 1) (V := [0, 2]) (ks := []) (by kernel_rfl)

/- tipstaff/shape.constant -/
def xf279 : XF := ⟨2, [0, 1, 4, 2, 9, 10, 15, 5],
  (.seq
 (.seq
 (.new (some 3) 287 (.var 0))
 (.set 2 (.const (.bool false))))
 (.seq
 (.cond (.ld none (.offp 4 (.var 3)))
 (.seq
 (.set 2 (.const (.bool true)))
 .ret)
 .skip)
 (.seq
 (.seq
 (.set 4 (.ld none (.offp 1 (.var 3))))
 (.block 0
 (.seq
 (.seq
 (.set 5 (.bin .eql (.var 4) (.const (.int .i64 3))))
 (.cond (.var 5)
 .skip
 (.set 5 (.bin .eql (.var 4) (.const (.int .i64 9))))))
 (.cond (.var 5)
 (.seq
 (.set 2 (.bin .neq (.var 1) (.const (.int .i32 0))))
 .ret)
 (.seq
 (.seq
 (.set 6 (.bin .eql (.var 4) (.const (.int .i64 6))))
 (.cond (.var 6)
 .skip
 (.seq
 (.set 6 (.bin .eql (.var 4) (.const (.int .i64 7))))
 (.cond (.var 6)
 .skip
 (.set 6 (.bin .eql (.var 4) (.const (.int .i64 12))))))))
 (.cond (.var 6)
 (.seq
 (.set 7 (.const (.int .i32 31)))
 (.seq
 (.cond (.ld none (.offp 3 (.var 3)))
 (.set 7 (.const (.int .i32 63)))
 .skip)
 (.seq
 (.set 2 (.pick (.bin .geq (.var 1) (.const (.int .i32 0))) (.bin .leq (.var 1) (.var 7)) (.const (.bool false))))
 .ret)))
 .skip))))))
 (.seq
 (.set 2 (.const (.bool true)))
 .ret)))),
  [(.var 2)]⟩
theorem okx_279 : FnOk Tryz.prog 3 365 279 xf279 := fnOk_of Tryz.func279 (np := 2) (V := [0, 1, 4, 2, 9, 10, 15, 5]) (ks := []) (by kernel_rfl)

/- (*tipstaff/cfg.walk).visit -/
def xf283 : XF := ⟨2, [0, 1, 17, 19, 18, 5, 29, 30, 35],
  (.seq
 (.store 1 (.ixSl 1 (.ld none (.offp 1 (.nn (.var 0)))) (.var 1)) (.const (.int .i64 1)) [])
 (.seq
 (.seq
 (.seq
 (.call (some 2) 319 [(.ld none (.offp 0 (.nn (.var 0)))), (.var 1)] [])
 (.seq
 (.set 4 (.len false (.var 2)))
 (.set 3 (.const (.int .i64 0)))))
 (.block 0
 (.loop [0, 1, 2, 3, 4]
 (.seq
 (.cond (.bin .lss (.var 3) (.var 4))
 .skip
 (.exit 0))
 (.seq
 (.block 1
 (.seq
 (.set 5 (.ld none (.ixSl 1 (.var 2) (.var 3))))
 (.seq
 (.set 6 (.ld none (.ixSl 1 (.ld none (.offp 1 (.nn (.var 0)))) (.var 5))))
 (.block 2
 (.seq
 (.set 7 (.bin .eql (.var 6) (.const (.int .i64 1))))
 (.cond (.var 7)
 (.store 1 (.offp 2 (.nn (.var 0))) (.const (.bool true)) [])
 (.seq
 (.set 8 (.bin .eql (.var 6) (.const (.int .i64 0))))
 (.cond (.var 8)
 (.call none 283 [(.var 0), (.var 5)] [])
 .skip))))))))
 (.set 3 (.bin .add (.var 3) (.const (.int .i64 1)))))))))
 (.store 1 (.ixSl 1 (.ld none (.offp 1 (.nn (.var 0)))) (.var 1)) (.const (.int .i64 2)) []))),
  []⟩
theorem okx_283 : FnOk Tryz.prog 3 365 283 xf283 := fnOk_of Tryz.func283 (np := 2) (V := [0, 1, 17, 19, 18, 5, 29, 30, 35]) (ks := [[0, 1, 2, 3, 4]]) (by kernel_rfl)

/- slices.IndexFunc[[]tipstaff/absreg.State,tipstaff/absreg.State] -/
def xf284 : XF := ⟨2, [0, 1, 4, 8, 7, 5, 16],
  (.seq
 (.set 2 (.const (.int .i64 0)))
 (.seq
 (.seq
 (.seq
 (.set 4 (.len false (.var 0)))
 (.set 3 (.const (.int .i64 0))))
 (.block 0
 (.loop [0, 1, 3, 4]
 (.seq
 (.cond (.bin .lss (.var 3) (.var 4))
 .skip
 (.exit 0))
 (.seq
 (.block 1
 (.seq
 (.set 5 (.var 3))
 (.seq
 (.dyn (some 6) (.var 1) [(.ld (some 273) (.ixSl 273 (.var 0) (.var 5)))] [])
 (.cond (.var 6)
 (.seq
 (.set 2 (.var 5))
 .ret)
 .skip))))
 (.set 3 (.bin .add (.var 3) (.const (.int .i64 1)))))))))
 (.seq
 (.set 2 (.const (.int .i64 (-1))))
 .ret))),
  [(.var 2)]⟩
theorem okx_284 : FnOk Tryz.prog 3 365 284 xf284 := fnOk_of Tryz.func284 (np := 2) (V := [0, 1, 4, 8, 7, 5, 16]) (ks := [[0, 1, 3, 4]]) (by kernel_rfl)

/- tipstaff/verify.known -/
def xf286 : XF := ⟨1, [0, 2, 4],
  (.seq
 (.new (some 1) 257 (.const zA9))
 (.seq
 (.seq
 (.call (some 2) 322 [(.var 0)] [])
 (.seq
 (.chk [(.upd 1 6 (.upd 0 1 (.const zA9) (.const (.int .i64 1))) (.var 2))])
 (.store 11 (.var 1) (.upd 1 6 (.upd 0 1 (.const zA9) (.const (.int .i64 1))) (.var 2)) [])))
 .ret)),
  [(.ld (some 11) (.var 1))]⟩
theorem okx_286 : FnOk Tryz.prog 3 365 286 xf286 := fnOk_of Tryz.func286 (np := 1) (V := [0, 2, 4]) (ks := []) (by kernel_rfl)

/- tipstaff/scalar.Do -/
def xf287 : XF := ⟨4, [0, 1, 2, 3, 8, 6, 7, 10, 13, 21, 22, 27, 30, 31, 32, 33, 34],
  (.seq
 (.seq
 (.new (some 5) 255 (.var 2))
 (.seq
 (.new (some 6) 255 (.var 3))
 (.new (some 4) 255 (.const zA5))))
 (.seq
 (.seq
 (.seq
 (.call (some 7) 323 [(.ld (some 6) (.var 5))] [])
 (.seq
 (.chk [(.pick (.var 7) (.ld (some 6) (.var 6)) (.const (.bool false)))])
 (.cond (.pick (.var 7) (.const (.bool true)) (.const (.bool false)))
 (.call (some 8) 323 [(.ld (some 6) (.var 6))] [])
 (.clr [8]))))
 (.cond (.pick (.var 7) (.var 8) (.const (.bool false)))
 (.seq
 (.seq
 (.call (some 9) 197 [(.var 0), (.var 1), (.ld none (.offp 2 (.var 5))), (.ld none (.offp 2 (.var 6)))] [])
 (.seq
 (.call (some 10) 322 [(.var 9)] [])
 (.store 6 (.var 4) (.var 10) [])))
 .ret)
 .skip))
 (.seq
 (.cond (.var 1)
 (.seq
 (.seq
 (.call (some 11) 324 [(.var 0), (.const (.bool true)), (.ld (some 6) (.var 5)), (.ld (some 6) (.var 6))] [])
 (.store 6 (.var 4) (.var 11) []))
 .ret)
 .skip)
 (.seq
 (.seq
 .skip
 (.seq
 (.chk [(.ld (some 6) (.var 5)), (.var 0)])
 (.seq
 (.set 13 (.ld (some 6) (.var 6)))
 (.seq
 (.call (some 12) 325 [(.ld (some 6) (.var 5)), (.const (.int .i64 4))] [(.ld (some 6) (.var 6))])
 (.seq
 (.call (some 14) 325 [(.var 13), (.const (.int .i64 4))] [])
 (.seq
 (.call (some 15) 324 [(.var 0), (.const (.bool false)), (.var 12), (.var 14)] [])
 (.seq
 (.call (some 16) 325 [(.var 15), (.const (.int .i64 4))] [])
 (.store 6 (.var 4) (.var 16) []))))))))
 .ret)))),
  [(.ld (some 6) (.var 4))]⟩
theorem okx_287 : FnOk Tryz.prog 3 365 287 xf287 := fnOk_of Tryz.func287 (np := 4) (V := [0, 1, 2, 3, 8, 6, 7, 10, 13, 21, 22, 27, 30, 31, 32, 33, 34]) (ks := []) (by kernel_rfl)

/- (tipstaff/verify.way).set -/
def xf288 : XF := ⟨4, [0, 1, 2, 3, 8, 4, 6, 20],
  (.seq
 (.seq
 (.new (some 5) 265 (.var 0))
 (.seq
 (.new (some 6) 257 (.var 2))
 (.set 4 (.const (.slice none 0 0)))))
 (.seq
 (.store 11 (.ixArr 11 11 (.offp 0 (.offp 1 (.var 5))) (.var 1)) (.ld (some 11) (.var 6)) [])
 (.seq
 (.store 1 (.offp 0 (.var 5)) (.bin .add (.ld none (.offp 0 (.var 5))) (.var 3)) [])
 (.seq
 (.seq
 (.row (some 7) 265 1 (.upd 0 274 (.const zA18) (.ld (some 274) (.var 5))))
 (.set 4 (.var 7)))
 .ret)))),
  [(.var 4)]⟩
theorem okx_288 : FnOk Tryz.prog 3 365 288 xf288 := fnOk_of Tryz.func288 (np := 4) (V := [0, 1, 2, 3, 8, 4, 6, 20]) (ks := []) (by kernel_rfl)

/- tipstaff/cfg.Next -/
def xf319 : XF := ⟨2, [0, 1, 4, 2, 18, 20],
  (.seq
 (.seq
 (.new (some 3) 37 (.var 0))
 (.set 2 (.const (.slice none 0 0))))
 (.seq
 (.cond (.pick (.bin .lss (.var 1) (.const (.int .i64 0))) (.const (.bool true)) (.bin .geq (.var 1) (.len false (.ld none (.var 3)))))
 (.seq
 (.set 2 (.const (.slice none 0 0)))
 .ret)
 .skip)
 (.seq
 (.seq
 (.call (some 4) 343 [(.var 1), (.ld (some 5) (.ixSl 5 (.ld none (.var 3)) (.var 1)))] [])
 (.seq
 (.chk [(.cap1 (.const (.func (.func 344) #[] #[])) (.var 3))])
 (.seq
 (.call (some 5) 342 [(.var 4), (.cap1 (.const (.func (.func 344) #[] #[])) (.var 3))] [])
 (.set 2 (.var 5)))))
 .ret))),
  [(.var 2)]⟩
theorem okx_319 : FnOk Tryz.prog 3 365 319 xf319 := fnOk_of Tryz.func319 (np := 2) (V := [0, 1, 4, 2, 18, 20]) (ks := []) (by kernel_rfl)

/- tipstaff/scalar.Const -/
def xf322 : XF := ⟨1, [0, 2, 4],
  (.seq
 (.new (some 1) 255 (.const zA5))
 (.seq
 (.seq
 (.call (some 2) 346 [(.var 0)] [])
 (.seq
 (.chk [(.upd 5 1 (.upd 4 1 (.upd 3 1 (.upd 2 1 (.upd 0 2 (.const zA5) (.var 2)) (.var 0)) (.var 0)) (.conv .i64 (.var 0))) (.conv .i64 (.var 0)))])
 (.store 6 (.var 1) (.upd 5 1 (.upd 4 1 (.upd 3 1 (.upd 2 1 (.upd 0 2 (.const zA5) (.var 2)) (.var 0)) (.var 0)) (.conv .i64 (.var 0))) (.conv .i64 (.var 0))) [])))
 .ret)),
  [(.ld (some 6) (.var 1))]⟩
theorem okx_322 : FnOk Tryz.prog 3 365 322 xf322 := fnOk_of Tryz.func322 (np := 1) (V := [0, 2, 4]) (ks := []) (by kernel_rfl)

/- tipstaff/scalar.alone -/
def xf323 : XF := ⟨1, [0, 2, 1, 25, 21],
  (.seq
 (.seq
 (.new (some 2) 255 (.var 0))
 (.set 1 (.const (.bool false))))
 (.seq
 (.seq
 (.set 4 (.pick (.pick (.bin .eql (.ld none (.offp 1 (.offp 0 (.var 2)))) (.const (.int .u64 0))) (.bin .eql (.ld none (.offp 2 (.var 2))) (.ld none (.offp 3 (.var 2)))) (.const (.bool false))) (.bin .eql (.ld none (.offp 4 (.var 2))) (.ld none (.offp 5 (.var 2)))) (.const (.bool false))))
 (.seq
 (.chk [(.pick (.var 4) (.ld none (.offp 2 (.var 2))) (.const (.bool false))), (.pick (.var 4) (.ld (some 6) (.var 2)) (.const (.bool false)))])
 (.seq
 (.cond (.pick (.var 4) (.const (.bool true)) (.const (.bool false)))
 (.call (some 3) 347 [(.ld (some 6) (.var 2)), (.ld none (.offp 2 (.var 2)))] [])
 (.clr [3]))
 (.set 1 (.pick (.var 4) (.var 3) (.const (.bool false)))))))
 .ret)),
  [(.var 1)]⟩
theorem okx_323 : FnOk Tryz.prog 3 365 323 xf323 := fnOk_of Tryz.func323 (np := 1) (V := [0, 2, 1, 25, 21]) (ks := []) (by kernel_rfl)

/- slices.DeleteFunc[[]int,int] -/
def xf342 : XF := ⟨2, [0, 1, 4, 10, 5, 6, 7, 28],
  (.seq
 (.set 2 (.const (.slice none 0 0)))
 (.seq
 (.seq
 (.call (some 3) 361 [(.var 0), (.var 1)] [])
 (.set 4 (.var 3)))
 (.seq
 (.cond (.bin .eql (.var 4) (.const (.int .i64 (-1))))
 (.seq
 (.set 2 (.var 0))
 .ret)
 .skip)
 (.seq
 (.seq
 (.set 5 (.bin .add (.var 4) (.const (.int .i64 1))))
 (.block 0
 (.loop [0, 1, 4, 5]
 (.seq
 (.cond (.bin .lss (.var 5) (.len false (.var 0)))
 .skip
 (.exit 0))
 (.seq
 (.block 1
 (.seq
 (.set 6 (.ld none (.ixSl 1 (.var 0) (.var 5))))
 (.seq
 (.dyn (some 7) (.var 1) [(.var 6)] [])
 (.cond (.un .not (.var 7))
 (.seq
 (.store 1 (.ixSl 1 (.var 0) (.var 4)) (.var 6) [])
 (.set 4 (.bin .add (.var 4) (.const (.int .i64 1)))))
 .skip))))
 (.set 5 (.bin .add (.var 5) (.const (.int .i64 1)))))))))
 (.seq
 (.clear [(.int .i64 0)] (.slSl 1 (.var 0) (.var 4) (.len false (.var 0))) [])
 (.seq
 (.set 2 (.slSl 1 (.var 0) (.const (.int .i64 0)) (.var 4)))
 .ret)))))),
  [(.var 2)]⟩
theorem okx_342 : FnOk Tryz.prog 3 365 342 xf342 := fnOk_of Tryz.func342 (np := 2) (V := [0, 1, 4, 10, 5, 6, 7, 28]) (ks := [[0, 1, 4, 5]]) (by kernel_rfl)

/- tipstaff/cfg.behind -/
def xf343 : XF := ⟨2, [0, 1, 4, 3, 7, 8, 12, 16, 17, 18, 24, 25, 5, 29, 30, 34, 37],
  (.seq
 (.seq
 (.new (some 3) 46 (.var 1))
 (.set 2 (.const (.slice none 0 0))))
 (.seq
 (.seq
 (.call (some 4) 223 [(.ld (some 5) (.var 3))] [])
 (.block 0
 (.seq
 (.seq
 (.set 5 (.bin .eql (.var 4) (.const (.int .i64 0))))
 (.cond (.var 5)
 .skip
 (.seq
 (.set 5 (.bin .eql (.var 4) (.const (.int .i64 5))))
 (.cond (.var 5)
 .skip
 (.set 5 (.bin .eql (.var 4) (.const (.int .i64 10))))))))
 (.cond (.var 5)
 (.seq
 (.set 2 (.const (.slice none 0 0)))
 .ret)
 (.seq
 (.set 6 (.bin .eql (.var 4) (.const (.int .i64 3))))
 (.cond (.var 6)
 (.seq
 (.seq
 (.call (some 7) 163 [(.var 0), (.ld (some 5) (.var 3))] [])
 (.seq
 (.row (some 8) 3 1 (.upd 0 1 (.const (.agg #[(.int .i64 0)])) (.var 7)))
 (.set 2 (.var 8))))
 .ret)
 (.seq
 (.set 9 (.bin .eql (.var 4) (.const (.int .i64 2))))
 (.cond (.var 9)
 (.seq
 (.seq
 (.chk [(.bin .add (.var 0) (.const (.int .i64 1)))])
 (.seq
 (.call (some 10) 163 [(.var 0), (.ld (some 5) (.var 3))] [])
 (.seq
 (.row (some 11) 3 2 (.upd 1 1 (.upd 0 1 (.const (.agg #[(.int .i64 0), (.int .i64 0)])) (.bin .add (.var 0) (.const (.int .i64 1)))) (.var 10)))
 (.set 12 (.var 11)))))
 (.seq
 (.call none 127 [(.var 12)] [])
 (.seq
 (.seq
 (.call (some 13) 362 [(.var 12)] [])
 (.set 2 (.var 13)))
 .ret)))
 (.seq
 (.set 14 (.bin .eql (.var 4) (.const (.int .i64 9))))
 (.cond (.var 14)
 (.seq
 (.seq
 (.row (some 15) 3 1 (.upd 0 1 (.const (.agg #[(.int .i64 0)])) (.bin .add (.var 0) (.const (.int .i64 2)))))
 (.set 2 (.var 15)))
 .ret)
 .skip))))))))))
 (.seq
 (.seq
 (.row (some 16) 3 1 (.upd 0 1 (.const (.agg #[(.int .i64 0)])) (.bin .add (.var 0) (.const (.int .i64 1)))))
 (.set 2 (.var 16)))
 .ret))),
  [(.var 2)]⟩
theorem okx_343 : FnOk Tryz.prog 3 365 343 xf343 := fnOk_of Tryz.func343 (np := 2) (V := [0, 1, 4, 3, 7, 8, 12, 16, 17, 18, 24, 25, 5, 29, 30, 34, 37]) (ks := []) (by kernel_rfl)

/- tipstaff/cfg.Next$1 -/
def xf344 : XF := ⟨2, [0, 1, 3],
  (.seq
 (.set 2 (.const (.bool false)))
 (.seq
 (.set 2 (.pick (.bin .lss (.var 0) (.const (.int .i64 0))) (.const (.bool true)) (.bin .geq (.var 0) (.len false (.ld none (.var 1))))))
 .ret)),
  [(.var 2)]⟩
theorem okx_344 : FnOk Tryz.prog 3 365 344 xf344 := fnOk_of Tryz.func344 (np := 2) (V := [0, 1, 3]) (ks := []) (by kernel_rfl)

/- tipstaff/tnum.Const -/
def xf346 : XF := ⟨1, [0, 2],
  (.seq
 (.new (some 1) 253 (.const (.agg #[(.int .u64 0), (.int .u64 0)])))
 (.seq
 (.seq
 (.chk [(.upd 0 1 (.const (.agg #[(.int .u64 0), (.int .u64 0)])) (.var 0))])
 (.store 2 (.var 1) (.upd 0 1 (.const (.agg #[(.int .u64 0), (.int .u64 0)])) (.var 0)) []))
 .ret)),
  [(.ld (some 2) (.var 1))]⟩
theorem okx_346 : FnOk Tryz.prog 3 365 346 xf346 := fnOk_of Tryz.func346 (np := 1) (V := [0, 2]) (ks := []) (by kernel_rfl)

/- tipstaff/scalar.Has -/
def xf347 : XF := ⟨2, [0, 1, 4, 2, 8],
  (.seq
 (.seq
 (.new (some 3) 255 (.var 0))
 (.set 2 (.const (.bool false))))
 (.seq
 (.seq
 (.call (some 4) 363 [(.ld (some 2) (.offp 0 (.var 3))), (.var 1)] [])
 (.set 2 (.pick (.pick (.pick (.pick (.var 4) (.bin .leq (.ld none (.offp 2 (.var 3))) (.var 1)) (.const (.bool false))) (.bin .leq (.var 1) (.ld none (.offp 3 (.var 3)))) (.const (.bool false))) (.bin .leq (.ld none (.offp 4 (.var 3))) (.conv .i64 (.var 1))) (.const (.bool false))) (.bin .leq (.conv .i64 (.var 1)) (.ld none (.offp 5 (.var 3)))) (.const (.bool false)))))
 .ret)),
  [(.var 2)]⟩
theorem okx_347 : FnOk Tryz.prog 3 365 347 xf347 := fnOk_of Tryz.func347 (np := 2) (V := [0, 1, 4, 2, 8]) (ks := []) (by kernel_rfl)

/- slices.IndexFunc[[]int,int] -/
def xf361 : XF := ⟨2, [0, 1, 4, 8, 7, 5, 16],
  (.seq
 (.set 2 (.const (.int .i64 0)))
 (.seq
 (.seq
 (.seq
 (.set 4 (.len false (.var 0)))
 (.set 3 (.const (.int .i64 0))))
 (.block 0
 (.loop [0, 1, 3, 4]
 (.seq
 (.cond (.bin .lss (.var 3) (.var 4))
 .skip
 (.exit 0))
 (.seq
 (.block 1
 (.seq
 (.set 5 (.var 3))
 (.seq
 (.dyn (some 6) (.var 1) [(.ld none (.ixSl 1 (.var 0) (.var 5)))] [])
 (.cond (.var 6)
 (.seq
 (.set 2 (.var 5))
 .ret)
 .skip))))
 (.set 3 (.bin .add (.var 3) (.const (.int .i64 1)))))))))
 (.seq
 (.set 2 (.const (.int .i64 (-1))))
 .ret))),
  [(.var 2)]⟩
theorem okx_361 : FnOk Tryz.prog 3 365 361 xf361 := fnOk_of Tryz.func361 (np := 2) (V := [0, 1, 4, 8, 7, 5, 16]) (ks := [[0, 1, 3, 4]]) (by kernel_rfl)

/- tipstaff/tnum.Has -/
def xf363 : XF := ⟨2, [0, 1, 4, 2],
  (.seq
 (.seq
 (.new (some 3) 253 (.var 0))
 (.set 2 (.const (.bool false))))
 (.seq
 (.set 2 (.bin .eql (.bin .andNot (.var 1) (.ld none (.offp 1 (.var 3)))) (.ld none (.offp 0 (.var 3)))))
 .ret)),
  [(.var 2)]⟩
theorem okx_363 : FnOk Tryz.prog 3 365 363 xf363 := fnOk_of Tryz.func363 (np := 2) (V := [0, 1, 4, 2]) (ks := []) (by kernel_rfl)
def cm3 : Cmd :=
  (.seq
 (.set 2 (.const (.bool false)))
 (.seq
 (.seq
 (.call (some 3) 5 [] [])
 (.set 4 (.var 3)))
 (.seq
 (.seq
 (.chk [(.var 4)])
 (.seq
 (.call (some 5) 7 [] [])
 (.seq
 (.chk [(.upd 8 6 (.upd 1 1 (.const zA14) (.const (.int .i64 12))) (.var 5))])
 (.call none 6 [(.var 4), (.upd 8 6 (.upd 1 1 (.const zA14) (.const (.int .i64 12))) (.var 5))] []))))
 (.seq
 (.seq
 (.call (some 6) 8 [(.const (.int .u8 0)), (.var 1)] [])
 (.seq
 (.call (some 7) 9 [] [])
 (.seq
 (.row (some 8) 46 2 (.upd 5 5 (.upd 0 5 (.const zA8) (.var 6)) (.var 7)) [])
 (.set 9 (.var 8)))))
 (.seq
 (.seq
 (.chk [(.upd 14 4 (.upd 1 1 (.const zA14) (.const (.int .i64 1))) (.upd 1 1 (.const zA1) (.var 9))), (.upd 1 1 (.const zA1) (.var 9))])
 (.seq
 (.call (some 10) 6 [(.var 4), (.upd 14 4 (.upd 1 1 (.const zA14) (.const (.int .i64 1))) (.upd 1 1 (.const zA1) (.var 9)))] [])
 (.seq
 (.new (some 11) 29 (.const zA0) [])
 (.store 4 (.var 11) (.var 10) []))))
 (.seq
 (.seq
 (.seq
 (.call (some 12) 10 [] [])
 (.seq
 (.cond (.pick (.un .not (.var 12)) (.const (.bool false)) (.const (.bool true)))
 (.call (some 13) 11 [] [])
 (.clr [13]))
 (.seq
 (.set 15 (.pick (.pick (.pick (.un .not (.var 12)) (.const (.bool true)) (.un .not (.var 13))) (.const (.bool true)) (.bin .neq (.ld none (.offp 0 (.var 11))) (.const (.int .i64 0)))) (.const (.bool true)) (.bin .neq (.ld none (.offp 1 (.var 11))) (.const (.int .i64 1)))))
 (.seq
 (.chk [(.pick (.var 15) (.const (.bool false)) (.upd 1 1 (.const zA14) (.const (.int .i64 8)))), (.pick (.var 15) (.const (.bool false)) (.var 4))])
 (.cond (.pick (.var 15) (.const (.bool false)) (.const (.bool true)))
 (.call (some 14) 6 [(.var 4), (.upd 1 1 (.const zA14) (.const (.int .i64 8)))] [])
 (.clr [14]))))))
 (.cond (.pick (.var 15) (.const (.bool true)) (.bin .neq (.part none 0 (.var 14)) (.const (.int .i64 0))))
 (.seq
 (.set 2 (.const (.bool false)))
 .ret)
 .skip))
 (.seq
 (.seq
 (.set 16 (.const (.int .i64 0)))
 (.set 17 (.const (.int .i64 1))))
 (.seq
 (.seq
 (.set 18 (.const (.int .i64 0)))
 (.block 0
 (.loop [0, 1, 4, 16, 17, 18]
 (.seq
 (.cond (.pick (.bin .lss (.var 18) (.len false (.var 0))) (.bin .lss (.var 18) (.const (.int .i64 9))) (.const (.bool false)))
 .skip
 (.exit 0))
 (.seq
 (.block 1
 (.seq
 (.set 19 (.conv .i64 (.bin .rem (.conv .u64 (.ld none (.ixSl 1 (.var 0) (.var 18)))) (.const (.int .u64 4)))))
 (.seq
 (.seq
 (.seq
 (.chk [(.upd 3 1 (.upd 2 1 (.upd 1 1 (.upd 0 1 (.const zA14) (.var 16)) (.const (.int .i64 10))) (.var 17)) (.var 19))])
 (.seq
 (.call (some 20) 6 [(.var 4), (.upd 3 1 (.upd 2 1 (.upd 1 1 (.upd 0 1 (.const zA14) (.var 16)) (.const (.int .i64 10))) (.var 17)) (.var 19))] [])
 (.seq
 (.chk [(.pick (.bin .neq (.part none 0 (.var 20)) (.const (.int .i64 0))) (.const (.bool false)) (.upd 2 1 (.upd 1 1 (.upd 0 1 (.const zA14) (.var 16)) (.const (.int .i64 8))) (.var 17))), (.pick (.bin .neq (.part none 0 (.var 20)) (.const (.int .i64 0))) (.const (.bool false)) (.var 4))])
 (.cond (.pick (.bin .neq (.part none 0 (.var 20)) (.const (.int .i64 0))) (.const (.bool false)) (.const (.bool true)))
 (.call (some 21) 6 [(.var 4), (.upd 2 1 (.upd 1 1 (.upd 0 1 (.const zA14) (.var 16)) (.const (.int .i64 8))) (.var 17))] [])
 (.clr [21])))))
 (.cond (.pick (.bin .neq (.part none 0 (.var 20)) (.const (.int .i64 0))) (.const (.bool true)) (.bin .neq (.part none 0 (.var 21)) (.const (.int .i64 0))))
 (.seq
 (.set 2 (.const (.bool false)))
 .ret)
 .skip))
 (.seq
 (.seq
 (.call (some 22) 12 [(.var 4), (.var 19)] [])
 (.set 23 (.var 22)))
 (.seq
 (.seq
 (.seq
 (.chk [(.pick (.bin .neq (.len false (.var 23)) (.const (.int .i64 1))) (.const (.bool false)) (.var 4))])
 (.cond (.pick (.bin .neq (.len false (.var 23)) (.const (.int .i64 1))) (.const (.bool false)) (.const (.bool true)))
 (.call (some 24) 13 [(.var 4)] [])
 (.clr [24])))
 (.cond (.pick (.bin .neq (.len false (.var 23)) (.const (.int .i64 1))) (.const (.bool true)) (.bin .neq (.len false (.var 24)) (.const (.int .i64 2))))
 (.seq
 (.set 2 (.const (.bool false)))
 .ret)
 .skip))
 (.seq
 (.seq
 .draw
 (.seq
 (.chk [(.ld none (.ixArr 2 1 (.ixSl 2 (.var 23) (.const (.int .i64 0))) (.const (.int .i64 0))))])
 (.seq
 (.set 16 (.var 19))
 (.set 17 (.ld none (.ixArr 2 1 (.ixSl 2 (.var 23) (.const (.int .i64 0))) (.const (.int .i64 0))))))))
 (.seq
 (.seq
 (.chk [(.upd 3 1 (.upd 2 1 (.upd 1 1 (.upd 0 1 (.const zA14) (.var 16)) (.const (.int .i64 7))) (.var 17)) (.const (.int .i64 5)))])
 (.seq
 (.call (some 25) 6 [(.var 4), (.upd 3 1 (.upd 2 1 (.upd 1 1 (.upd 0 1 (.const zA14) (.var 16)) (.const (.int .i64 7))) (.var 17)) (.const (.int .i64 5)))] [])
 (.seq
 (.new (some 26) 29 (.const zA0) [])
 (.store 4 (.var 26) (.var 25) []))))
 (.cond (.pick (.bin .neq (.ld none (.offp 0 (.var 26))) (.const (.int .i64 0))) (.const (.bool true)) (.bin .neq (.ld none (.offp 2 (.var 26))) (.conv .u64 (.conv .i64 (.var 1)))))
 (.seq
 (.set 2 (.const (.bool false)))
 .ret)
 .skip))))))))
 (.set 18 (.bin .add (.var 18) (.const (.int .i64 1)))))))))
 (.seq
 (.seq
 (.chk [(.upd 2 1 (.upd 1 1 (.upd 0 1 (.const zA14) (.var 16)) (.const (.int .i64 8))) (.var 17))])
 (.seq
 (.call (some 27) 6 [(.var 4), (.upd 2 1 (.upd 1 1 (.upd 0 1 (.const zA14) (.var 16)) (.const (.int .i64 8))) (.var 17))] [])
 (.seq
 (.chk [(.pick (.bin .eql (.part none 0 (.var 27)) (.const (.int .i64 0))) (.var 4) (.const (.bool false)))])
 (.seq
 (.cond (.pick (.bin .eql (.part none 0 (.var 27)) (.const (.int .i64 0))) (.const (.bool true)) (.const (.bool false)))
 (.call (some 28) 13 [(.var 4)] [])
 (.clr [28]))
 (.seq
 (.chk [(.pick (.pick (.bin .eql (.part none 0 (.var 27)) (.const (.int .i64 0))) (.bin .eql (.len false (.var 28)) (.const (.int .i64 0))) (.const (.bool false))) (.var 4) (.const (.bool false)))])
 (.seq
 (.cond (.pick (.pick (.bin .eql (.part none 0 (.var 27)) (.const (.int .i64 0))) (.bin .eql (.len false (.var 28)) (.const (.int .i64 0))) (.const (.bool false))) (.const (.bool true)) (.const (.bool false)))
 (.call (some 29) 14 [(.var 4)] [])
 (.clr [29]))
 (.set 2 (.pick (.pick (.bin .eql (.part none 0 (.var 27)) (.const (.int .i64 0))) (.bin .eql (.len false (.var 28)) (.const (.int .i64 0))) (.const (.bool false))) (.var 29) (.const (.bool false))))))))))
 .ret)))))))))
def xf3 : XF := ⟨2, [0, 1, 4, 14, 5, 16, 20, 21, 22, 6, 27, 7, 28, 31, 47, 44, 8, 9, 10, 11, 73, 81, 87, 12, 93, 106, 13, 122, 127, 133],
  (.seq
 (.set 2 (.const (.bool false)))
 (.seq
 (.seq
 (.call (some 3) 5 [] [])
 (.set 4 (.var 3)))
 (.seq
 (.seq
 (.chk [(.var 4)])
 (.seq
 (.call (some 5) 7 [] [])
 (.seq
 (.chk [(.upd 8 6 (.upd 1 1 (.const zA14) (.const (.int .i64 12))) (.var 5))])
 (.call none 6 [(.var 4), (.upd 8 6 (.upd 1 1 (.const zA14) (.const (.int .i64 12))) (.var 5))] []))))
 (.seq
 (.seq
 (.call (some 6) 8 [(.const (.int .u8 0)), (.var 1)] [])
 (.seq
 (.call (some 7) 9 [] [])
 (.seq
 (.row (some 8) 46 2 (.upd 5 5 (.upd 0 5 (.const zA8) (.var 6)) (.var 7)))
 (.set 9 (.var 8)))))
 (.seq
 (.seq
 (.chk [(.upd 14 4 (.upd 1 1 (.const zA14) (.const (.int .i64 1))) (.upd 1 1 (.const zA1) (.var 9))), (.upd 1 1 (.const zA1) (.var 9))])
 (.seq
 (.call (some 10) 6 [(.var 4), (.upd 14 4 (.upd 1 1 (.const zA14) (.const (.int .i64 1))) (.upd 1 1 (.const zA1) (.var 9)))] [])
 (.seq
 (.new (some 11) 29 (.const zA0))
 (.store 4 (.var 11) (.var 10) []))))
 (.seq
 (.seq
 (.seq
 (.call (some 12) 10 [] [])
 (.seq
 (.cond (.pick (.un .not (.var 12)) (.const (.bool false)) (.const (.bool true)))
 (.call (some 13) 11 [] [])
 (.clr [13]))
 (.seq
 (.set 15 (.pick (.pick (.pick (.un .not (.var 12)) (.const (.bool true)) (.un .not (.var 13))) (.const (.bool true)) (.bin .neq (.ld none (.offp 0 (.var 11))) (.const (.int .i64 0)))) (.const (.bool true)) (.bin .neq (.ld none (.offp 1 (.var 11))) (.const (.int .i64 1)))))
 (.seq
 (.chk [(.pick (.var 15) (.const (.bool false)) (.upd 1 1 (.const zA14) (.const (.int .i64 8)))), (.pick (.var 15) (.const (.bool false)) (.var 4))])
 (.cond (.pick (.var 15) (.const (.bool false)) (.const (.bool true)))
 (.call (some 14) 6 [(.var 4), (.upd 1 1 (.const zA14) (.const (.int .i64 8)))] [])
 (.clr [14]))))))
 (.cond (.pick (.var 15) (.const (.bool true)) (.bin .neq (.part none 0 (.var 14)) (.const (.int .i64 0))))
 (.seq
 (.set 2 (.const (.bool false)))
 .ret)
 .skip))
 (.seq
 (.seq
 (.set 16 (.const (.int .i64 0)))
 (.set 17 (.const (.int .i64 1))))
 (.seq
 (.seq
 (.set 18 (.const (.int .i64 0)))
 (.block 0
 (.loop [0, 1, 4, 16, 17, 18]
 (.seq
 (.cond (.pick (.bin .lss (.var 18) (.len false (.var 0))) (.bin .lss (.var 18) (.const (.int .i64 9))) (.const (.bool false)))
 .skip
 (.exit 0))
 (.seq
 (.block 1
 (.seq
 (.set 19 (.conv .i64 (.bin .rem (.conv .u64 (.ld none (.ixSl 1 (.var 0) (.var 18)))) (.const (.int .u64 4)))))
 (.seq
 (.seq
 (.seq
 (.chk [(.upd 3 1 (.upd 2 1 (.upd 1 1 (.upd 0 1 (.const zA14) (.var 16)) (.const (.int .i64 10))) (.var 17)) (.var 19))])
 (.seq
 (.call (some 20) 6 [(.var 4), (.upd 3 1 (.upd 2 1 (.upd 1 1 (.upd 0 1 (.const zA14) (.var 16)) (.const (.int .i64 10))) (.var 17)) (.var 19))] [])
 (.seq
 (.chk [(.pick (.bin .neq (.part none 0 (.var 20)) (.const (.int .i64 0))) (.const (.bool false)) (.upd 2 1 (.upd 1 1 (.upd 0 1 (.const zA14) (.var 16)) (.const (.int .i64 8))) (.var 17))), (.pick (.bin .neq (.part none 0 (.var 20)) (.const (.int .i64 0))) (.const (.bool false)) (.var 4))])
 (.cond (.pick (.bin .neq (.part none 0 (.var 20)) (.const (.int .i64 0))) (.const (.bool false)) (.const (.bool true)))
 (.call (some 21) 6 [(.var 4), (.upd 2 1 (.upd 1 1 (.upd 0 1 (.const zA14) (.var 16)) (.const (.int .i64 8))) (.var 17))] [])
 (.clr [21])))))
 (.cond (.pick (.bin .neq (.part none 0 (.var 20)) (.const (.int .i64 0))) (.const (.bool true)) (.bin .neq (.part none 0 (.var 21)) (.const (.int .i64 0))))
 (.seq
 (.set 2 (.const (.bool false)))
 .ret)
 .skip))
 (.seq
 (.seq
 (.call (some 22) 12 [(.var 4), (.var 19)] [])
 (.set 23 (.var 22)))
 (.seq
 (.seq
 (.seq
 (.chk [(.pick (.bin .neq (.len false (.var 23)) (.const (.int .i64 1))) (.const (.bool false)) (.var 4))])
 (.cond (.pick (.bin .neq (.len false (.var 23)) (.const (.int .i64 1))) (.const (.bool false)) (.const (.bool true)))
 (.call (some 24) 13 [(.var 4)] [])
 (.clr [24])))
 (.cond (.pick (.bin .neq (.len false (.var 23)) (.const (.int .i64 1))) (.const (.bool true)) (.bin .neq (.len false (.var 24)) (.const (.int .i64 2))))
 (.seq
 (.set 2 (.const (.bool false)))
 .ret)
 .skip))
 (.seq
 (.seq
 .skip
 (.seq
 (.chk [(.ld none (.ixArr 2 1 (.ixSl 2 (.var 23) (.const (.int .i64 0))) (.const (.int .i64 0))))])
 (.seq
 (.set 16 (.var 19))
 (.set 17 (.ld none (.ixArr 2 1 (.ixSl 2 (.var 23) (.const (.int .i64 0))) (.const (.int .i64 0))))))))
 (.seq
 (.seq
 (.chk [(.upd 3 1 (.upd 2 1 (.upd 1 1 (.upd 0 1 (.const zA14) (.var 16)) (.const (.int .i64 7))) (.var 17)) (.const (.int .i64 5)))])
 (.seq
 (.call (some 25) 6 [(.var 4), (.upd 3 1 (.upd 2 1 (.upd 1 1 (.upd 0 1 (.const zA14) (.var 16)) (.const (.int .i64 7))) (.var 17)) (.const (.int .i64 5)))] [])
 (.seq
 (.new (some 26) 29 (.const zA0))
 (.store 4 (.var 26) (.var 25) []))))
 (.cond (.pick (.bin .neq (.ld none (.offp 0 (.var 26))) (.const (.int .i64 0))) (.const (.bool true)) (.bin .neq (.ld none (.offp 2 (.var 26))) (.conv .u64 (.conv .i64 (.var 1)))))
 (.seq
 (.set 2 (.const (.bool false)))
 .ret)
 .skip))))))))
 (.set 18 (.bin .add (.var 18) (.const (.int .i64 1)))))))))
 (.seq
 (.seq
 (.chk [(.upd 2 1 (.upd 1 1 (.upd 0 1 (.const zA14) (.var 16)) (.const (.int .i64 8))) (.var 17))])
 (.seq
 (.call (some 27) 6 [(.var 4), (.upd 2 1 (.upd 1 1 (.upd 0 1 (.const zA14) (.var 16)) (.const (.int .i64 8))) (.var 17))] [])
 (.seq
 (.chk [(.pick (.bin .eql (.part none 0 (.var 27)) (.const (.int .i64 0))) (.var 4) (.const (.bool false)))])
 (.seq
 (.cond (.pick (.bin .eql (.part none 0 (.var 27)) (.const (.int .i64 0))) (.const (.bool true)) (.const (.bool false)))
 (.call (some 28) 13 [(.var 4)] [])
 (.clr [28]))
 (.seq
 (.chk [(.pick (.pick (.bin .eql (.part none 0 (.var 27)) (.const (.int .i64 0))) (.bin .eql (.len false (.var 28)) (.const (.int .i64 0))) (.const (.bool false))) (.var 4) (.const (.bool false)))])
 (.seq
 (.cond (.pick (.pick (.bin .eql (.part none 0 (.var 27)) (.const (.int .i64 0))) (.bin .eql (.len false (.var 28)) (.const (.int .i64 0))) (.const (.bool false))) (.const (.bool true)) (.const (.bool false)))
 (.call (some 29) 14 [(.var 4)] [])
 (.clr [29]))
 (.set 2 (.pick (.pick (.bin .eql (.part none 0 (.var 27)) (.const (.int .i64 0))) (.bin .eql (.len false (.var 28)) (.const (.int .i64 0))) (.const (.bool false))) (.var 29) (.const (.bool false))))))))))
 .ret))))))))),
  [(.var 2)]⟩
theorem cmp_3 : compile Tryz.prog Tryz.f3 [0, 1, 4, 14, 5, 16, 20, 21, 22, 6, 27, 7, 28, 31, 47, 44, 8, 9, 10, 11, 73, 81, 87, 12, 93, 106, 13, 122, 127, 133] [[0, 1, 4, 16, 17, 18]] = some (cm3, [(.var 2)]) := by kernel_rfl
theorem tox_3 : toX Tryz.prog 3 365 cm3 = some xf3.c := by kernel_rfl
theorem okx_3 : FnOk Tryz.prog 3 365 3 xf3 := fnOk_parts Tryz.func3 (by kernel_rfl) (by kernel_rfl) cmp_3 tox_3 (by kernel_rfl)
end Go.Proofs.YtipfkfecelkhnaaGreatDoor
