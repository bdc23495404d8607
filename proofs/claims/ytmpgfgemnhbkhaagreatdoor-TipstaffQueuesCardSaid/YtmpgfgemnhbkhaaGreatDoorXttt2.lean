/- The interpreter's functions, part 2: made by program (geny.py). -/
import Derived.Test.YtmpgfgemnhbkhaaGreatDoorXttz
import Derived.Test.YtmpgfgemnhbkhaaGreatDoorProg
set_option maxRecDepth 100000
set_option linter.unusedVariables false
namespace Go.Proofs.YtmpgfgemnhbkhaaGreatDoor
open Go.Eng
/- (*tipstaff/region.Memory).Map -/
def xf171 : XF := ⟨2, [0, 1, 4],
  (.seq
 (.set 2 (.const (.pointer none)))
 (.seq
 (.cond (.pick (.pick (.isnil 0 false (.var 0)) (.const (.bool true)) (.bin .lss (.var 1) (.const (.int .i64 0)))) (.const (.bool true)) (.bin .geq (.var 1) (.len false (.ld none (.offp 192 (.nn (.var 0)))))))
 (.seq
 (.set 2 (.const (.pointer none)))
 .ret)
 .skip)
 (.seq
 (.set 2 (.ld none (.ixSl 1 (.ld none (.offp 192 (.nn (.var 0)))) (.var 1))))
 .ret))),
  [(.var 2)]⟩
theorem okx_171 : FnOk Tryz.prog 2 377 171 xf171 := fnOk_of Tryz.func171 (np := 2) (V := [0, 1, 4]) (ks := []) (by kernel_rfl)

/- (*tipstaff/bmap.Map).lined -/
def xf172 : XF := ⟨1, [0, 2],
  (.seq
 (.set 1 (.const (.bool false)))
 (.seq
 (.set 1 (.pick (.bin .eql (.ld none (.offp 0 (.offp 0 (.nn (.var 0))))) (.const (.int .i64 3))) (.const (.bool true)) (.bin .eql (.ld none (.offp 0 (.offp 0 (.nn (.var 0))))) (.const (.int .i64 4)))))
 .ret)),
  [(.var 1)]⟩
theorem okx_172 : FnOk Tryz.prog 2 377 172 xf172 := fnOk_of Tryz.func172 (np := 1) (V := [0, 2]) (ks := []) (by kernel_rfl)

/- (*tipstaff/bmap.Map).plain -/
def xf174 : XF := ⟨2, [0, 1, 4, 13, 14],
  (.seq
 (.set 2 (.const (.string ⟨#[]⟩)))
 (.seq
 (.cond (.bin .eql (.ld none (.offp 0 (.offp 0 (.nn (.var 0))))) (.const (.int .i64 5)))
 (.seq
 (.call (some 3) 173 [(.var 1)] [])
 (.seq
 (.call (some 4) 178 [(.var 1), (.var 3)] [])
 (.set 1 (.var 4))))
 .skip)
 (.seq
 (.set 2 (.bstr (.var 1)))
 .ret))),
  [(.var 2)]⟩
theorem okx_174 : FnOk Tryz.prog 2 377 174 xf174 := fnOk_of Tryz.func174 (np := 2) (V := [0, 1, 4, 13, 14]) (ks := []) (by kernel_rfl)

/- slices.IndexFunc[[]*tipstaff/bmap.entry,*tipstaff/bmap.entry] -/
def xf175 : XF := ⟨2, [0, 1, 4, 8, 7, 5, 16],
  (.seq
 (.set 2 (.const (.int .i64 0)))
 (.seq
 (.seq
 (.seq
 (.set 4 (.len false (.var 0)))
 (.set 3 (.const (.int .i64 0))))
 (.block 0
 (.loop [0, 1, 3, 4]
 (.seq
 (.cond (.bin .lss (.var 3) (.var 4))
 .skip
 (.exit 0))
 (.seq
 (.block 1
 (.seq
 (.set 5 (.var 3))
 (.seq
 (.dyn (some 6) (.var 1) [(.ld none (.ixSl 1 (.var 0) (.var 5)))] [])
 (.cond (.var 6)
 (.seq
 (.set 2 (.var 5))
 .ret)
 .skip))))
 (.set 3 (.bin .add (.var 3) (.const (.int .i64 1)))))))))
 (.seq
 (.set 2 (.const (.int .i64 (-1))))
 .ret))),
  [(.var 2)]⟩
theorem okx_175 : FnOk Tryz.prog 2 377 175 xf175 := fnOk_of Tryz.func175 (np := 2) (V := [0, 1, 4, 8, 7, 5, 16]) (ks := [[0, 1, 3, 4]]) (by kernel_rfl)

/- (*tipstaff/bmap.Map).exact$1 -/
def xf176 : XF := ⟨2, [0, 1, 3],
  (.seq
 (.set 2 (.const (.bool false)))
 (.seq
 (.seq
 .skip
 (.set 2 (.bin .eql (.ld none (.offp 0 (.nn (.var 0)))) (.ld none (.var 1)))))
 .ret)),
  [(.var 2)]⟩
theorem okx_176 : FnOk Tryz.prog 2 377 176 xf176 := fnOk_of Tryz.func176 (np := 2) (V := [0, 1, 3]) (ks := []) (by kernel_rfl)

/- (*tipstaff/bmap.Map).changes -/
def xf200 : XF := ⟨1, [0, 2, 3, 6],
  (.seq
 (.set 1 (.const (.int .i64 0)))
 (.seq
 (.block 0
 (.seq
 (.set 2 (.isnil 0 false (.var 0)))
 (.cond (.var 2)
 (.seq
 (.set 1 (.const (.int .i64 22)))
 .ret)
 (.seq
 (.set 3 (.ld none (.offp 5 (.nn (.var 0)))))
 (.cond (.var 3)
 (.seq
 (.set 1 (.const (.int .i64 1)))
 .ret)
 .skip)))))
 (.seq
 (.set 1 (.const (.int .i64 0)))
 .ret))),
  [(.var 1)]⟩
theorem okx_200 : FnOk Tryz.prog 2 377 200 xf200 := fnOk_of Tryz.func200 (np := 1) (V := [0, 2, 3, 6]) (ks := []) (by kernel_rfl)

/- slices.Sort[[]int,int] -/
def xf214 : XF := ⟨1, [0, 2, 9],
  (.seq
 (.set 1 (.len false (.var 0)))
 (.seq
 (.chk [(.var 0)])
 (.seq
 (.call (some 2) 266 [(.conv .u64 (.var 1))] [])
 (.call none 282 [(.var 0), (.const (.int .i64 0)), (.var 1), (.var 2)] [])))),
  []⟩
theorem okx_214 : FnOk Tryz.prog 2 377 214 xf214 := fnOk_of Tryz.func214 (np := 1) (V := [0, 2, 9]) (ks := []) (by kernel_rfl)

/- math/bits.RotateLeft32 -/
def xf217 : XF := ⟨2, [0, 1, 4, 5],
  (.seq
 (.set 2 (.const (.int .u32 0)))
 (.seq
 (.set 3 (.bin .and (.conv .u64 (.var 1)) (.const (.int .u64 31))))
 (.seq
 (.set 2 (.bin .or (.bin .shl (.var 0) (.var 3)) (.bin .shr (.var 0) (.bin .sub (.const (.int .u64 32)) (.var 3)))))
 .ret))),
  [(.var 2)]⟩
theorem okx_217 : FnOk Tryz.prog 2 377 217 xf217 := fnOk_of Tryz.func217 (np := 2) (V := [0, 1, 4, 5]) (ks := []) (by kernel_rfl)

/- tipstaff/shape.plain -/
def xf218 : XF := ⟨2, [0, 1, 4, 2, 3, 5, 14, 33],
  (.seq
 (.seq
 (.new (some 3) 32 (.var 0))
 (.seq
 (.new (some 4) 336 (.var 1))
 (.set 2 (.const (.bool false)))))
 (.seq
 (.block 0
 (.seq
 (.set 5 (.pick (.bin .geq (.ld none (.offp 1 (.var 3))) (.const (.int .u8 11))) (.const (.bool true)) (.bin .geq (.ld none (.offp 2 (.var 3))) (.const (.int .u8 11)))))
 (.cond (.var 5)
 .skip
 (.seq
 (.set 6 (.pick (.pick (.un .not (.ld none (.offp 0 (.var 4)))) (.bin .neq (.ld none (.offp 1 (.var 3))) (.const (.int .u8 0))) (.const (.bool false))) (.const (.bool true)) (.pick (.un .not (.ld none (.offp 1 (.var 4)))) (.bin .neq (.ld none (.offp 2 (.var 3))) (.const (.int .u8 0))) (.const (.bool false)))))
 (.cond (.var 6)
 .skip
 (.seq
 (.set 7 (.pick (.pick (.un .not (.ld none (.offp 2 (.var 4)))) (.bin .neq (.ld none (.offp 3 (.var 3))) (.const (.int .i16 0))) (.const (.bool false))) (.const (.bool true)) (.pick (.un .not (.ld none (.offp 3 (.var 4)))) (.bin .neq (.ld none (.offp 4 (.var 3))) (.const (.int .i32 0))) (.const (.bool false)))))
 (.cond (.var 7)
 .skip
 (.seq
 (.set 2 (.const (.bool true)))
 .ret))))))))
 (.seq
 (.set 2 (.const (.bool false)))
 .ret))),
  [(.var 2)]⟩
theorem okx_218 : FnOk Tryz.prog 2 377 218 xf218 := fnOk_of Tryz.func218 (np := 2) (V := [0, 1, 4, 2, 3, 5, 14, 33]) (ks := []) (by kernel_rfl)

/- tipstaff/shape.named -/
def xf219 : XF := ⟨1, [0, 2, 1, 4, 5, 18, 27, 30, 34, 37, 40],
  (.seq
 (.seq
 (.new (some 2) 203 (.var 0))
 (.new (some 1) 336 (.const (.agg (Array.replicate 4 (.bool false))))))
 (.seq
 (.seq
 (.set 3 (.ld none (.offp 0 (.var 2))))
 (.block 0
 (.seq
 (.set 4 (.bin .eql (.var 3) (.const (.int .i64 1))))
 (.cond (.var 4)
 (.seq
 (.seq
 (.chk [(.upd 3 1 (.upd 2 1 (.upd 1 1 (.upd 0 1 (.const (.agg (Array.replicate 4 (.bool false)))) (.const (.bool true))) (.ld none (.offp 4 (.var 2)))) (.const (.bool false))) (.pick (.un .not (.ld none (.offp 4 (.var 2)))) (.bin .neq (.ld none (.offp 1 (.var 2))) (.const (.int .i64 8))) (.const (.bool false))))])
 (.store 4 (.var 1) (.upd 3 1 (.upd 2 1 (.upd 1 1 (.upd 0 1 (.const (.agg (Array.replicate 4 (.bool false)))) (.const (.bool true))) (.ld none (.offp 4 (.var 2)))) (.const (.bool false))) (.pick (.un .not (.ld none (.offp 4 (.var 2)))) (.bin .neq (.ld none (.offp 1 (.var 2))) (.const (.int .i64 8))) (.const (.bool false)))) []))
 .ret)
 (.seq
 (.seq
 (.set 5 (.bin .eql (.var 3) (.const (.int .i64 2))))
 (.cond (.var 5)
 .skip
 (.set 5 (.bin .eql (.var 3) (.const (.int .i64 7))))))
 (.cond (.var 5)
 (.seq
 (.seq
 (.chk [(.upd 3 1 (.upd 2 1 (.upd 1 1 (.upd 0 1 (.const (.agg (Array.replicate 4 (.bool false)))) (.const (.bool true))) (.ld none (.offp 4 (.var 2)))) (.const (.bool true))) (.un .not (.ld none (.offp 4 (.var 2)))))])
 (.store 4 (.var 1) (.upd 3 1 (.upd 2 1 (.upd 1 1 (.upd 0 1 (.const (.agg (Array.replicate 4 (.bool false)))) (.const (.bool true))) (.ld none (.offp 4 (.var 2)))) (.const (.bool true))) (.un .not (.ld none (.offp 4 (.var 2))))) []))
 .ret)
 (.seq
 (.set 6 (.bin .eql (.var 3) (.const (.int .i64 3))))
 (.cond (.var 6)
 (.seq
 (.seq
 (.chk [(.upd 2 1 (.const (.agg (Array.replicate 4 (.bool false)))) (.const (.bool true)))])
 (.store 4 (.var 1) (.upd 2 1 (.const (.agg (Array.replicate 4 (.bool false)))) (.const (.bool true))) []))
 .ret)
 (.seq
 (.seq
 (.set 7 (.bin .eql (.var 3) (.const (.int .i64 4))))
 (.cond (.var 7)
 .skip
 (.set 7 (.bin .eql (.var 3) (.const (.int .i64 10))))))
 (.cond (.var 7)
 (.seq
 (.seq
 (.chk [(.upd 3 1 (.const (.agg (Array.replicate 4 (.bool false)))) (.const (.bool true)))])
 (.store 4 (.var 1) (.upd 3 1 (.const (.agg (Array.replicate 4 (.bool false)))) (.const (.bool true))) []))
 .ret)
 (.seq
 (.set 8 (.bin .eql (.var 3) (.const (.int .i64 6))))
 (.cond (.var 8)
 (.seq
 (.seq
 (.chk [(.upd 3 1 (.upd 2 1 (.upd 1 1 (.upd 0 1 (.const (.agg (Array.replicate 4 (.bool false)))) (.const (.bool true))) (.const (.bool true))) (.const (.bool true))) (.const (.bool false)))])
 (.store 4 (.var 1) (.upd 3 1 (.upd 2 1 (.upd 1 1 (.upd 0 1 (.const (.agg (Array.replicate 4 (.bool false)))) (.const (.bool true))) (.const (.bool true))) (.const (.bool true))) (.const (.bool false))) []))
 .ret)
 (.seq
 (.set 9 (.bin .eql (.var 3) (.const (.int .i64 8))))
 (.cond (.var 9)
 (.seq
 (.seq
 (.chk [(.upd 3 1 (.upd 2 1 (.upd 1 1 (.upd 0 1 (.const (.agg (Array.replicate 4 (.bool false)))) (.const (.bool true))) (.const (.bool true))) (.const (.bool true))) (.const (.bool true)))])
 (.store 4 (.var 1) (.upd 3 1 (.upd 2 1 (.upd 1 1 (.upd 0 1 (.const (.agg (Array.replicate 4 (.bool false)))) (.const (.bool true))) (.const (.bool true))) (.const (.bool true))) (.const (.bool true))) []))
 .ret)
 (.seq
 (.set 10 (.bin .eql (.var 3) (.const (.int .i64 9))))
 (.cond (.var 10)
 (.seq
 (.seq
 (.chk [(.upd 3 1 (.upd 2 1 (.upd 1 1 (.upd 0 1 (.const (.agg (Array.replicate 4 (.bool false)))) (.const (.bool true))) (.const (.bool true))) (.const (.bool false))) (.const (.bool true)))])
 (.store 4 (.var 1) (.upd 3 1 (.upd 2 1 (.upd 1 1 (.upd 0 1 (.const (.agg (Array.replicate 4 (.bool false)))) (.const (.bool true))) (.const (.bool true))) (.const (.bool false))) (.const (.bool true))) []))
 .ret)
 .skip))))))))))))))))
 (.seq
 (.store 4 (.var 1) (.const (.agg (Array.replicate 4 (.bool false)))) [])
 .ret))),
  [(.ld (some 4) (.var 1))]⟩
theorem okx_219 : FnOk Tryz.prog 2 377 219 xf219 := fnOk_of Tryz.func219 (np := 1) (V := [0, 2, 1, 4, 5, 18, 27, 30, 34, 37, 40]) (ks := []) (by kernel_rfl)

/- tipstaff/shape.writes -/
def xf220 : XF := ⟨1, [0, 2],
  (.seq
 (.set 1 (.const (.bool false)))
 (.seq
 (.set 1 (.pick (.pick (.bin .eql (.var 0) (.const (.int .i64 1))) (.const (.bool true)) (.bin .eql (.var 0) (.const (.int .i64 6)))) (.const (.bool true)) (.bin .eql (.var 0) (.const (.int .i64 9)))))
 .ret)),
  [(.var 1)]⟩
theorem okx_220 : FnOk Tryz.prog 2 377 220 xf220 := fnOk_of Tryz.func220 (np := 1) (V := [0, 2]) (ks := []) (by kernel_rfl)

/- tipstaff/shape.constant -/
def xf221 : XF := ⟨2, [0, 1, 4, 2, 9, 10, 15, 5],
  (.seq
 (.seq
 (.new (some 3) 203 (.var 0))
 (.set 2 (.const (.bool false))))
 (.seq
 (.cond (.ld none (.offp 4 (.var 3)))
 (.seq
 (.set 2 (.const (.bool true)))
 .ret)
 .skip)
 (.seq
 (.seq
 (.set 4 (.ld none (.offp 1 (.var 3))))
 (.block 0
 (.seq
 (.seq
 (.set 5 (.bin .eql (.var 4) (.const (.int .i64 3))))
 (.cond (.var 5)
 .skip
 (.set 5 (.bin .eql (.var 4) (.const (.int .i64 9))))))
 (.cond (.var 5)
 (.seq
 (.set 2 (.bin .neq (.var 1) (.const (.int .i32 0))))
 .ret)
 (.seq
 (.seq
 (.set 6 (.bin .eql (.var 4) (.const (.int .i64 6))))
 (.cond (.var 6)
 .skip
 (.seq
 (.set 6 (.bin .eql (.var 4) (.const (.int .i64 7))))
 (.cond (.var 6)
 .skip
 (.set 6 (.bin .eql (.var 4) (.const (.int .i64 12))))))))
 (.cond (.var 6)
 (.seq
 (.set 7 (.const (.int .i32 31)))
 (.seq
 (.cond (.ld none (.offp 3 (.var 3)))
 (.set 7 (.const (.int .i32 63)))
 .skip)
 (.seq
 (.set 2 (.pick (.bin .geq (.var 1) (.const (.int .i32 0))) (.bin .leq (.var 1) (.var 7)) (.const (.bool false))))
 .ret)))
 .skip))))))
 (.seq
 (.set 2 (.const (.bool true)))
 .ret)))),
  [(.var 2)]⟩
theorem okx_221 : FnOk Tryz.prog 2 377 221 xf221 := fnOk_of Tryz.func221 (np := 2) (V := [0, 1, 4, 2, 9, 10, 15, 5]) (ks := []) (by kernel_rfl)

/- tipstaff/shape.Args -/
def xf222 : XF := ⟨1, [0, 2, 3, 4, 5, 10, 12, 15],
  (.seq
 (.seq
 (.set 1 (.const (.int .i64 0)))
 (.set 2 (.const (.bool false))))
 (.seq
 (.seq
 (.set 3 (.var 0))
 (.block 0
 (.seq
 (.seq
 (.set 4 (.bin .eql (.var 3) (.const (.int .i32 1))))
 (.cond (.var 4)
 .skip
 (.seq
 (.set 4 (.bin .eql (.var 3) (.const (.int .i32 3))))
 (.cond (.var 4)
 .skip
 (.seq
 (.set 4 (.bin .eql (.var 3) (.const (.int .i32 88))))
 (.cond (.var 4)
 .skip
 (.set 4 (.bin .eql (.var 3) (.const (.int .i32 89))))))))))
 (.cond (.var 4)
 (.seq
 (.seq
 (.set 1 (.const (.int .i64 2)))
 (.set 2 (.const (.bool true))))
 .ret)
 (.seq
 (.set 5 (.bin .eql (.var 3) (.const (.int .i32 2))))
 (.cond (.var 5)
 (.seq
 (.seq
 (.set 1 (.const (.int .i64 4)))
 (.set 2 (.const (.bool true))))
 .ret)
 (.seq
 (.seq
 (.set 6 (.bin .eql (.var 3) (.const (.int .i32 5))))
 (.cond (.var 6)
 .skip
 (.set 6 (.bin .eql (.var 3) (.const (.int .i32 7))))))
 (.cond (.var 6)
 (.seq
 (.seq
 (.set 1 (.const (.int .i64 0)))
 (.set 2 (.const (.bool true))))
 .ret)
 (.seq
 (.set 7 (.bin .eql (.var 3) (.const (.int .i32 87))))
 (.cond (.var 7)
 (.seq
 (.seq
 (.set 1 (.const (.int .i64 3)))
 (.set 2 (.const (.bool true))))
 .ret)
 .skip))))))))))
 (.seq
 (.seq
 (.set 1 (.const (.int .i64 0)))
 (.set 2 (.const (.bool false))))
 .ret))),
  [(.var 1), (.var 2)]⟩
theorem okx_222 : FnOk Tryz.prog 2 377 222 xf222 := fnOk_of Tryz.func222 (np := 1) (V := [0, 2, 3, 4, 5, 10, 12, 15]) (ks := []) (by kernel_rfl)

/- tipstaff/shape.atomic -/
def xf223 : XF := ⟨1, [0, 2],
  (.seq
 (.set 1 (.const (.bool false)))
 (.seq
 (.set 1 (.pick (.pick (.pick (.bin .eql (.var 0) (.const (.int .i32 0))) (.const (.bool true)) (.bin .eql (.var 0) (.const (.int .i32 64)))) (.const (.bool true)) (.bin .eql (.var 0) (.const (.int .i32 80)))) (.const (.bool true)) (.bin .eql (.var 0) (.const (.int .i32 160)))))
 .ret)),
  [(.var 1)]⟩
theorem okx_223 : FnOk Tryz.prog 2 377 223 xf223 := fnOk_of Tryz.func223 (np := 1) (V := [0, 2]) (ks := []) (by kernel_rfl)

/- tipstaff/shape.wide -/
def xf224 : XF := ⟨2, [0, 1, 4, 5, 9, 21],
  (.seq
 (.set 2 (.const (.bool false)))
 (.seq
 (.seq
 (.set 4 (.ld (some 5) (.ixSl 5 (.var 0) (.var 1))))
 (.seq
 (.new (some 3) 32 (.const zA2))
 (.store 5 (.var 3) (.var 4) [])))
 (.seq
 (.seq
 (.seq
 (.chk [(.pick (.bin .geq (.bin .add (.var 1) (.const (.int .i64 1))) (.len false (.var 0))) (.const (.bool false)) (.ld (some 5) (.ixSl 5 (.var 0) (.bin .add (.var 1) (.const (.int .i64 1))))))])
 (.cond (.pick (.bin .geq (.bin .add (.var 1) (.const (.int .i64 1))) (.len false (.var 0))) (.const (.bool false)) (.const (.bool true)))
 (.call (some 5) 145 [(.ld (some 5) (.ixSl 5 (.var 0) (.bin .add (.var 1) (.const (.int .i64 1)))))] [])
 (.clr [5])))
 (.cond (.pick (.pick (.bin .geq (.bin .add (.var 1) (.const (.int .i64 1))) (.len false (.var 0))) (.const (.bool true)) (.bin .neq (.var 5) (.const (.int .i64 10)))) (.const (.bool true)) (.bin .gtr (.ld none (.offp 2 (.var 3))) (.const (.int .u8 1))))
 (.seq
 (.set 2 (.const (.bool false)))
 .ret)
 .skip))
 (.seq
 (.set 2 (.pick (.bin .eql (.ld none (.offp 2 (.var 3))) (.const (.int .u8 0))) (.const (.bool true)) (.pick (.pick (.bin .geq (.ld none (.offp 4 (.var 3))) (.const (.int .i32 0))) (.bin .lss (.ld none (.offp 4 (.var 3))) (.const (.int .i32 4))) (.const (.bool false))) (.bin .eql (.ld none (.offp 4 (.ixSl 5 (.var 0) (.bin .add (.var 1) (.const (.int .i64 1)))))) (.const (.int .i32 0))) (.const (.bool false)))))
 .ret)))),
  [(.var 2)]⟩
theorem okx_224 : FnOk Tryz.prog 2 377 224 xf224 := fnOk_of Tryz.func224 (np := 2) (V := [0, 1, 4, 5, 9, 21]) (ks := []) (by kernel_rfl)

/- (*tipstaff/cfg.walk).visit -/
def xf225 : XF := ⟨2, [0, 1, 17, 19, 18, 5, 29, 30, 35],
  (.seq
 (.store 1 (.ixSl 1 (.ld none (.offp 1 (.nn (.var 0)))) (.var 1)) (.const (.int .i64 1)) [])
 (.seq
 (.seq
 (.seq
 (.call (some 2) 284 [(.ld none (.offp 0 (.nn (.var 0)))), (.var 1)] [])
 (.seq
 (.set 4 (.len false (.var 2)))
 (.set 3 (.const (.int .i64 0)))))
 (.block 0
 (.loop [0, 1, 2, 3, 4]
 (.seq
 (.cond (.bin .lss (.var 3) (.var 4))
 .skip
 (.exit 0))
 (.seq
 (.block 1
 (.seq
 (.set 5 (.ld none (.ixSl 1 (.var 2) (.var 3))))
 (.seq
 (.set 6 (.ld none (.ixSl 1 (.ld none (.offp 1 (.nn (.var 0)))) (.var 5))))
 (.block 2
 (.seq
 (.set 7 (.bin .eql (.var 6) (.const (.int .i64 1))))
 (.cond (.var 7)
 (.store 1 (.offp 2 (.nn (.var 0))) (.const (.bool true)) [])
 (.seq
 (.set 8 (.bin .eql (.var 6) (.const (.int .i64 0))))
 (.cond (.var 8)
 (.call none 225 [(.var 0), (.var 5)] [])
 .skip))))))))
 (.set 3 (.bin .add (.var 3) (.const (.int .i64 1)))))))))
 (.store 1 (.ixSl 1 (.ld none (.offp 1 (.nn (.var 0)))) (.var 1)) (.const (.int .i64 2)) []))),
  []⟩
theorem okx_225 : FnOk Tryz.prog 2 377 225 xf225 := fnOk_of Tryz.func225 (np := 2) (V := [0, 1, 17, 19, 18, 5, 29, 30, 35]) (ks := [[0, 1, 2, 3, 4]]) (by kernel_rfl)

/- slices.IndexFunc[[]tipstaff/absreg.State,tipstaff/absreg.State] -/
def xf226 : XF := ⟨2, [0, 1, 4, 8, 7, 5, 16],
  (.seq
 (.set 2 (.const (.int .i64 0)))
 (.seq
 (.seq
 (.seq
 (.set 4 (.len false (.var 0)))
 (.set 3 (.const (.int .i64 0))))
 (.block 0
 (.loop [0, 1, 3, 4]
 (.seq
 (.cond (.bin .lss (.var 3) (.var 4))
 .skip
 (.exit 0))
 (.seq
 (.block 1
 (.seq
 (.set 5 (.var 3))
 (.seq
 (.dyn (some 6) (.var 1) [(.ld (some 273) (.ixSl 273 (.var 0) (.var 5)))] [])
 (.cond (.var 6)
 (.seq
 (.set 2 (.var 5))
 .ret)
 .skip))))
 (.set 3 (.bin .add (.var 3) (.const (.int .i64 1)))))))))
 (.seq
 (.set 2 (.const (.int .i64 (-1))))
 .ret))),
  [(.var 2)]⟩
theorem okx_226 : FnOk Tryz.prog 2 377 226 xf226 := fnOk_of Tryz.func226 (np := 2) (V := [0, 1, 4, 8, 7, 5, 16]) (ks := [[0, 1, 3, 4]]) (by kernel_rfl)

/- tipstaff/verify.known -/
def xf228 : XF := ⟨1, [0, 2, 4],
  (.seq
 (.new (some 1) 124 (.const zA9))
 (.seq
 (.seq
 (.call (some 2) 287 [(.var 0)] [])
 (.seq
 (.chk [(.upd 1 6 (.upd 0 1 (.const zA9) (.const (.int .i64 1))) (.var 2))])
 (.store 11 (.var 1) (.upd 1 6 (.upd 0 1 (.const zA9) (.const (.int .i64 1))) (.var 2)) [])))
 .ret)),
  [(.ld (some 11) (.var 1))]⟩
theorem okx_228 : FnOk Tryz.prog 2 377 228 xf228 := fnOk_of Tryz.func228 (np := 1) (V := [0, 2, 4]) (ks := []) (by kernel_rfl)

/- tipstaff/scalar.Do -/
def xf229 : XF := ⟨4, [0, 1, 2, 3, 8, 6, 7, 10, 13, 21, 22, 27, 30, 31, 32, 33, 34],
  (.seq
 (.seq
 (.new (some 5) 122 (.var 2))
 (.seq
 (.new (some 6) 122 (.var 3))
 (.new (some 4) 122 (.const zA5))))
 (.seq
 (.seq
 (.seq
 (.call (some 7) 288 [(.ld (some 6) (.var 5))] [])
 (.seq
 (.chk [(.pick (.var 7) (.ld (some 6) (.var 6)) (.const (.bool false)))])
 (.cond (.pick (.var 7) (.const (.bool true)) (.const (.bool false)))
 (.call (some 8) 288 [(.ld (some 6) (.var 6))] [])
 (.clr [8]))))
 (.cond (.pick (.var 7) (.var 8) (.const (.bool false)))
 (.seq
 (.seq
 (.call (some 9) 165 [(.var 0), (.var 1), (.ld none (.offp 2 (.var 5))), (.ld none (.offp 2 (.var 6)))] [])
 (.seq
 (.call (some 10) 287 [(.var 9)] [])
 (.store 6 (.var 4) (.var 10) [])))
 .ret)
 .skip))
 (.seq
 (.cond (.var 1)
 (.seq
 (.seq
 (.call (some 11) 289 [(.var 0), (.const (.bool true)), (.ld (some 6) (.var 5)), (.ld (some 6) (.var 6))] [])
 (.store 6 (.var 4) (.var 11) []))
 .ret)
 .skip)
 (.seq
 (.seq
 .skip
 (.seq
 (.chk [(.ld (some 6) (.var 5)), (.var 0)])
 (.seq
 (.set 13 (.ld (some 6) (.var 6)))
 (.seq
 (.call (some 12) 290 [(.ld (some 6) (.var 5)), (.const (.int .i64 4))] [(.ld (some 6) (.var 6))])
 (.seq
 (.call (some 14) 290 [(.var 13), (.const (.int .i64 4))] [])
 (.seq
 (.call (some 15) 289 [(.var 0), (.const (.bool false)), (.var 12), (.var 14)] [])
 (.seq
 (.call (some 16) 290 [(.var 15), (.const (.int .i64 4))] [])
 (.store 6 (.var 4) (.var 16) []))))))))
 .ret)))),
  [(.ld (some 6) (.var 4))]⟩
theorem okx_229 : FnOk Tryz.prog 2 377 229 xf229 := fnOk_of Tryz.func229 (np := 4) (V := [0, 1, 2, 3, 8, 6, 7, 10, 13, 21, 22, 27, 30, 31, 32, 33, 34]) (ks := []) (by kernel_rfl)

/- (tipstaff/verify.way).set -/
def xf230 : XF := ⟨4, [0, 1, 2, 3, 8, 4, 6, 20],
  (.seq
 (.seq
 (.new (some 5) 132 (.var 0))
 (.seq
 (.new (some 6) 124 (.var 2))
 (.set 4 (.const (.slice none 0 0)))))
 (.seq
 (.store 11 (.ixArr 11 11 (.offp 0 (.offp 1 (.var 5))) (.var 1)) (.ld (some 11) (.var 6)) [])
 (.seq
 (.store 1 (.offp 0 (.var 5)) (.bin .add (.ld none (.offp 0 (.var 5))) (.var 3)) [])
 (.seq
 (.seq
 (.row (some 7) 132 1 (.upd 0 274 (.const zA23) (.ld (some 274) (.var 5))))
 (.set 4 (.var 7)))
 .ret)))),
  [(.var 4)]⟩
theorem okx_230 : FnOk Tryz.prog 2 377 230 xf230 := fnOk_of Tryz.func230 (np := 4) (V := [0, 1, 2, 3, 8, 4, 6, 20]) (ks := []) (by kernel_rfl)

/- (*tipstaff/verify.checker).onPlace -/
def xf231 : XF := ⟨4, [0, 1, 2, 3, 8, 9, 6, 7, 10, 16, 22, 17, 33, 41, 36, 52, 60, 55, 71],
  (.seq
 (.seq
 (.new (some 6) 124 (.var 2))
 (.seq
 (.new (some 7) 124 (.var 3))
 (.seq
 (.new (some 4) 124 (.const zA9))
 (.set 5 (.const (.bool false))))))
 (.seq
 (.block 0
 (.seq
 (.set 8 (.bin .eql (.var 1) (.const (.int .i64 11))))
 (.cond (.var 8)
 (.seq
 (.seq
 .skip
 (.seq
 (.chk [(.ld (some 11) (.var 7))])
 (.seq
 (.set 9 (.bin .neq (.ld none (.offp 0 (.var 7))) (.const (.int .i64 0))))
 (.seq
 (.store 11 (.var 4) (.ld (some 11) (.var 7)) [(.ld none (.offp 0 (.var 7)))])
 (.set 5 (.var 9))))))
 .ret)
 (.seq
 (.seq
 (.chk [(.pick (.bin .eql (.var 1) (.const (.int .i64 0))) (.ld (some 11) (.var 6)) (.const (.bool false)))])
 (.seq
 (.cond (.pick (.bin .eql (.var 1) (.const (.int .i64 0))) (.const (.bool true)) (.const (.bool false)))
 (.call (some 10) 291 [(.ld (some 11) (.var 6))] [])
 (.clr [10]))
 (.set 11 (.pick (.pick (.bin .eql (.var 1) (.const (.int .i64 0))) (.var 10) (.const (.bool false))) (.bin .eql (.ld none (.offp 0 (.var 7))) (.const (.int .i64 1))) (.const (.bool false))))))
 (.cond (.var 11)
 (.seq
 (.seq
 (.call (some 12) 292 [(.var 0), (.ld (some 11) (.var 6)), (.ld (some 6) (.offp 1 (.var 7))), (.const (.bool false))] [])
 (.seq
 (.chk [(.proj 1 (.var 12))])
 (.seq
 (.store 11 (.var 4) (.proj 0 (.var 12)) [])
 (.set 5 (.proj 1 (.var 12))))))
 .ret)
 (.seq
 (.seq
 (.chk [(.pick (.bin .eql (.var 1) (.const (.int .i64 1))) (.ld (some 11) (.var 6)) (.const (.bool false)))])
 (.seq
 (.cond (.pick (.bin .eql (.var 1) (.const (.int .i64 1))) (.const (.bool true)) (.const (.bool false)))
 (.call (some 13) 291 [(.ld (some 11) (.var 6))] [])
 (.clr [13]))
 (.set 14 (.pick (.pick (.bin .eql (.var 1) (.const (.int .i64 1))) (.var 13) (.const (.bool false))) (.bin .eql (.ld none (.offp 0 (.var 7))) (.const (.int .i64 1))) (.const (.bool false))))))
 (.cond (.var 14)
 (.seq
 (.seq
 (.call (some 15) 292 [(.var 0), (.ld (some 11) (.var 6)), (.ld (some 6) (.offp 1 (.var 7))), (.const (.bool true))] [])
 (.seq
 (.chk [(.proj 1 (.var 15))])
 (.seq
 (.store 11 (.var 4) (.proj 0 (.var 15)) [])
 (.set 5 (.proj 1 (.var 15))))))
 .ret)
 (.seq
 (.seq
 (.chk [(.pick (.bin .eql (.var 1) (.const (.int .i64 0))) (.ld (some 11) (.var 7)) (.const (.bool false)))])
 (.seq
 (.cond (.pick (.bin .eql (.var 1) (.const (.int .i64 0))) (.const (.bool true)) (.const (.bool false)))
 (.call (some 16) 291 [(.ld (some 11) (.var 7))] [])
 (.clr [16]))
 (.set 17 (.pick (.pick (.bin .eql (.var 1) (.const (.int .i64 0))) (.var 16) (.const (.bool false))) (.bin .eql (.ld none (.offp 0 (.var 6))) (.const (.int .i64 1))) (.const (.bool false))))))
 (.cond (.var 17)
 (.seq
 (.seq
 (.call (some 18) 292 [(.var 0), (.ld (some 11) (.var 7)), (.ld (some 6) (.offp 1 (.var 6))), (.const (.bool false))] [])
 (.seq
 (.chk [(.proj 1 (.var 18))])
 (.seq
 (.store 11 (.var 4) (.proj 0 (.var 18)) [])
 (.set 5 (.proj 1 (.var 18))))))
 .ret)
 .skip)))))))))
 (.seq
 (.seq
 (.store 11 (.var 4) (.const zA9) [])
 (.set 5 (.const (.bool false))))
 .ret))),
  [(.ld (some 11) (.var 4)), (.var 5)]⟩
theorem okx_231 : FnOk Tryz.prog 2 377 231 xf231 := fnOk_of Tryz.func231 (np := 4) (V := [0, 1, 2, 3, 8, 9, 6, 7, 10, 16, 22, 17, 33, 41, 36, 52, 60, 55, 71]) (ks := []) (by kernel_rfl)

/- tipstaff/absreg.Settle -/
def xf233 : XF := ⟨3, [0, 1, 2, 6, 3, 14, 13, 8, 7, 22, 28, 27, 10, 9, 36, 49, 11],
  (.seq
 (.seq
 (.new (some 4) 129 (.var 0))
 (.new (some 3) 129 (.const zA22)))
 (.seq
 (.seq
 (.seq
 (.set 6 (.ld (some 121) (.offp 0 (.var 4))))
 (.set 5 (.const (.int .i64 0))))
 (.block 0
 (.loop [1, 2, 3, 4, 5, 6]
 (.seq
 (.cond (.bin .lss (.var 5) (.const (.int .i64 11)))
 .skip
 (.exit 0))
 (.seq
 (.block 1
 (.seq
 (.seq
 (.chk [(.idxAgg (some 11) 11 11 (.var 6) (.var 5))])
 (.seq
 (.new (some 7) 124 (.const zA9))
 (.seq
 (.set 8 (.var 5))
 (.store 11 (.var 7) (.idxAgg (some 11) 11 11 (.var 6) (.var 5)) []))))
 (.seq
 (.chk [(.var 8)])
 (.seq
 (.call (some 9) 294 [(.ld (some 11) (.var 7)), (.var 1), (.var 2)] [])
 (.store 11 (.ixArr 11 11 (.offp 0 (.var 4)) (.var 8)) (.var 9) [])))))
 (.set 5 (.bin .add (.var 5) (.const (.int .i64 1)))))))))
 (.seq
 (.seq
 (.seq
 (.set 11 (.ld (some 88) (.offp 185 (.var 4))))
 (.set 10 (.const (.int .i64 0))))
 (.block 2
 (.loop [1, 2, 3, 4, 10, 11]
 (.seq
 (.cond (.bin .lss (.var 10) (.const (.int .i64 8)))
 .skip
 (.exit 2))
 (.seq
 (.block 3
 (.seq
 (.seq
 (.chk [(.idxAgg (some 11) 11 8 (.var 11) (.var 10))])
 (.seq
 (.new (some 12) 124 (.const zA9))
 (.seq
 (.set 13 (.var 10))
 (.store 11 (.var 12) (.idxAgg (some 11) 11 8 (.var 11) (.var 10)) []))))
 (.seq
 (.seq
 (.chk [(.var 13)])
 (.seq
 (.call (some 14) 294 [(.ld (some 11) (.var 12)), (.var 1), (.var 2)] [])
 (.store 11 (.ixArr 8 11 (.offp 185 (.var 4)) (.var 13)) (.var 14) [])))
 (.seq
 (.cond (.bin .neq (.ld none (.offp 0 (.ixArr 8 11 (.offp 185 (.var 4)) (.var 13)))) (.const (.int .i64 1)))
 (.exit 3)
 .skip)
 (.seq
 (.store 11 (.ixArr 8 11 (.offp 185 (.var 4)) (.var 13)) (.const zA9) [])
 (.seq
 (.set 15 (.const (.int .i64 0)))
 (.block 4
 (.loop [1, 2, 3, 4, 10, 11, 13, 15]
 (.seq
 (.cond (.bin .lss (.var 15) (.const (.int .i64 8)))
 .skip
 (.exit 4))
 (.seq
 (.block 5
 (.seq
 (.set 16 (.var 15))
 (.store 1 (.ixArr 64 1 (.offp 121 (.var 4)) (.bin .add (.bin .mul (.var 13) (.const (.int .i64 8))) (.var 16))) (.const (.bool true)) [])))
 (.set 15 (.bin .add (.var 15) (.const (.int .i64 1))))))))))))))
 (.set 10 (.bin .add (.var 10) (.const (.int .i64 1)))))))))
 (.seq
 (.store 273 (.var 3) (.ld (some 273) (.var 4)) [])
 .ret)))),
  [(.ld (some 273) (.var 3))]⟩
theorem okx_233 : FnOk Tryz.prog 2 377 233 xf233 := fnOk_of Tryz.func233 (np := 3) (V := [0, 1, 2, 6, 3, 14, 13, 8, 7, 22, 28, 27, 10, 9, 36, 49, 11]) (ks := [[1, 2, 3, 4, 5, 6], [1, 2, 3, 4, 10, 11], [1, 2, 3, 4, 10, 11, 13, 15]]) (by kernel_rfl)

/- tipstaff/verify.unknown -/
def xf234 : XF := ⟨1, [0, 2, 3, 5],
  (.seq
 (.new (some 1) 124 (.const zA9))
 (.seq
 (.seq
 (.call (some 2) 295 [] [])
 (.seq
 (.call (some 3) 290 [(.var 2), (.var 0)] [])
 (.seq
 (.chk [(.upd 1 6 (.upd 0 1 (.const zA9) (.const (.int .i64 1))) (.var 3))])
 (.store 11 (.var 1) (.upd 1 6 (.upd 0 1 (.const zA9) (.const (.int .i64 1))) (.var 3)) []))))
 .ret)),
  [(.ld (some 11) (.var 1))]⟩
theorem okx_234 : FnOk Tryz.prog 2 377 234 xf234 := fnOk_of Tryz.func234 (np := 1) (V := [0, 2, 3, 5]) (ks := []) (by kernel_rfl)

/- tipstaff/verify.called -/
def xf235 : XF := ⟨2, [0, 1, 4, 2, 3, 5],
  (.seq
 (.seq
 (.new (some 3) 129 (.var 0))
 (.seq
 (.new (some 4) 124 (.var 1))
 (.new (some 2) 129 (.const zA22))))
 (.seq
 (.seq
 (.set 5 (.const (.int .i64 1)))
 (.block 0
 (.loop [2, 3, 4, 5]
 (.seq
 (.cond (.bin .leq (.var 5) (.const (.int .i64 5)))
 .skip
 (.exit 0))
 (.seq
 (.block 1
 (.store 11 (.ixArr 11 11 (.offp 0 (.var 3)) (.var 5)) (.const zA9) []))
 (.set 5 (.bin .add (.var 5) (.const (.int .i64 1)))))))))
 (.seq
 (.store 11 (.ixArr 11 11 (.offp 0 (.var 3)) (.const (.int .i64 0))) (.ld (some 11) (.var 4)) [])
 (.seq
 (.store 273 (.var 2) (.ld (some 273) (.var 3)) [])
 .ret)))),
  [(.ld (some 273) (.var 2))]⟩
theorem okx_235 : FnOk Tryz.prog 2 377 235 xf235 := fnOk_of Tryz.func235 (np := 2) (V := [0, 1, 4, 2, 3, 5]) (ks := [[2, 3, 4, 5]]) (by kernel_rfl)

/- (*tipstaff/verify.checker).spec -/
def xf236 : XF := ⟨2, [0, 1, 4, 5],
  (.seq
 (.seq
 (.new (some 2) 24 (.const (.agg (Array.replicate 4 (.int .i64 0)))))
 (.set 3 (.const (.bool false))))
 (.seq
 (.cond (.pick (.bin .lss (.var 1) (.const (.int .i64 0))) (.const (.bool true)) (.bin .geq (.var 1) (.len false (.ld none (.offp 0 (.offp 1 (.nn (.var 0))))))))
 (.seq
 (.seq
 (.store 4 (.var 2) (.const (.agg (Array.replicate 4 (.int .i64 0)))) [])
 (.set 3 (.const (.bool false))))
 .ret)
 .skip)
 (.seq
 (.seq
 (.store 4 (.var 2) (.ld (some 4) (.ixSl 4 (.ld none (.offp 0 (.offp 1 (.nn (.var 0))))) (.var 1))) [])
 (.set 3 (.const (.bool true))))
 .ret))),
  [(.ld (some 4) (.var 2)), (.var 3)]⟩
theorem okx_236 : FnOk Tryz.prog 2 377 236 xf236 := fnOk_of Tryz.func236 (np := 2) (V := [0, 1, 4, 5]) (ks := []) (by kernel_rfl)

/- (*tipstaff/verify.checker).arguments -/
def xf237 : XF := ⟨5, [0, 1, 2, 3, 4, 10, 6, 9, 19, 11, 20, 21, 24, 29, 32, 40, 48, 51, 59, 70, 79, 82, 86, 97, 106, 109, 113, 116, 119],
  (.seq
 (.seq
 (.new (some 6) 129 (.var 1))
 (.seq
 (.new (some 7) 24 (.var 4))
 (.set 5 (.const (.bool false)))))
 (.seq
 (.seq
 (.call (some 8) 240 [(.var 0), (.ld (some 273) (.var 6)), (.ld (some 11) (.ixArr 11 11 (.offp 0 (.var 6)) (.const (.int .i64 2)))), (.const (.int .i64 0)), (.ld none (.offp 1 (.var 7)))] [])
 (.set 9 (.var 8)))
 (.seq
 (.seq
 (.set 10 (.var 2))
 (.block 0
 (.seq
 (.set 11 (.bin .eql (.var 10) (.const (.int .i32 1))))
 (.cond (.var 11)
 (.seq
 (.seq
 (.call (some 12) 296 [(.ld (some 4) (.var 7))] [])
 (.set 5 (.pick (.un .not (.var 12)) (.var 9) (.const (.bool false)))))
 .ret)
 (.seq
 (.set 13 (.bin .eql (.var 10) (.const (.int .i32 3))))
 (.cond (.var 13)
 (.seq
 (.seq
 (.call (some 14) 296 [(.ld (some 4) (.var 7))] [])
 (.seq
 (.chk [(.pick (.pick (.un .not (.var 14)) (.var 9) (.const (.bool false))) (.var 3) (.const (.bool false))), (.pick (.pick (.un .not (.var 14)) (.var 9) (.const (.bool false))) (.var 0) (.const (.bool false)))])
 (.seq
 (.cond (.pick (.pick (.un .not (.var 14)) (.var 9) (.const (.bool false))) (.const (.bool true)) (.const (.bool false)))
 (.call (some 15) 297 [(.var 0), (.var 3)] [])
 (.clr [15]))
 (.set 5 (.pick (.pick (.pick (.un .not (.var 14)) (.var 9) (.const (.bool false))) (.un .not (.var 15)) (.const (.bool false))) (.bin .neq (.ld none (.offp 0 (.var 7))) (.const (.int .i64 0))) (.const (.bool false)))))))
 .ret)
 (.seq
 (.set 16 (.bin .eql (.var 10) (.const (.int .i32 2))))
 (.cond (.var 16)
 (.seq
 (.seq
 (.call (some 17) 296 [(.ld (some 4) (.var 7))] [])
 (.seq
 (.chk [(.pick (.pick (.un .not (.var 17)) (.var 9) (.const (.bool false))) (.var 3) (.const (.bool false))), (.pick (.pick (.un .not (.var 17)) (.var 9) (.const (.bool false))) (.var 0) (.const (.bool false)))])
 (.seq
 (.cond (.pick (.pick (.un .not (.var 17)) (.var 9) (.const (.bool false))) (.const (.bool true)) (.const (.bool false)))
 (.call (some 18) 297 [(.var 0), (.var 3)] [])
 (.clr [18]))
 (.seq
 (.chk [(.pick (.pick (.pick (.un .not (.var 17)) (.var 9) (.const (.bool false))) (.un .not (.var 18)) (.const (.bool false))) (.ld none (.offp 2 (.var 7))) (.const (.bool false))), (.pick (.pick (.pick (.un .not (.var 17)) (.var 9) (.const (.bool false))) (.un .not (.var 18)) (.const (.bool false))) (.ld (some 11) (.ixArr 11 11 (.offp 0 (.var 6)) (.const (.int .i64 3)))) (.const (.bool false))), (.pick (.pick (.pick (.un .not (.var 17)) (.var 9) (.const (.bool false))) (.un .not (.var 18)) (.const (.bool false))) (.ld (some 273) (.var 6)) (.const (.bool false))), (.pick (.pick (.pick (.un .not (.var 17)) (.var 9) (.const (.bool false))) (.un .not (.var 18)) (.const (.bool false))) (.var 0) (.const (.bool false)))])
 (.seq
 (.cond (.pick (.pick (.pick (.un .not (.var 17)) (.var 9) (.const (.bool false))) (.un .not (.var 18)) (.const (.bool false))) (.const (.bool true)) (.const (.bool false)))
 (.call (some 19) 240 [(.var 0), (.ld (some 273) (.var 6)), (.ld (some 11) (.ixArr 11 11 (.offp 0 (.var 6)) (.const (.int .i64 3)))), (.const (.int .i64 0)), (.ld none (.offp 2 (.var 7)))] [])
 (.clr [19]))
 (.set 5 (.pick (.pick (.pick (.pick (.un .not (.var 17)) (.var 9) (.const (.bool false))) (.un .not (.var 18)) (.const (.bool false))) (.var 19) (.const (.bool false))) (.bin .eql (.ld none (.offp 0 (.ixArr 11 11 (.offp 0 (.var 6)) (.const (.int .i64 4))))) (.const (.int .i64 1))) (.const (.bool false)))))))))
 .ret)
 (.seq
 (.set 20 (.bin .eql (.var 10) (.const (.int .i32 87))))
 (.cond (.var 20)
 (.seq
 (.seq
 (.call (some 21) 296 [(.ld (some 4) (.var 7))] [])
 (.seq
 (.chk [(.pick (.var 21) (.var 3) (.const (.bool false))), (.pick (.var 21) (.var 0) (.const (.bool false)))])
 (.seq
 (.cond (.pick (.var 21) (.const (.bool true)) (.const (.bool false)))
 (.call (some 22) 297 [(.var 0), (.var 3)] [])
 (.clr [22]))
 (.seq
 (.chk [(.pick (.pick (.var 21) (.un .not (.var 22)) (.const (.bool false))) (.ld none (.offp 2 (.var 7))) (.const (.bool false))), (.pick (.pick (.var 21) (.un .not (.var 22)) (.const (.bool false))) (.ld (some 11) (.ixArr 11 11 (.offp 0 (.var 6)) (.const (.int .i64 2)))) (.const (.bool false))), (.pick (.pick (.var 21) (.un .not (.var 22)) (.const (.bool false))) (.ld (some 273) (.var 6)) (.const (.bool false))), (.pick (.pick (.var 21) (.un .not (.var 22)) (.const (.bool false))) (.var 0) (.const (.bool false)))])
 (.seq
 (.cond (.pick (.pick (.var 21) (.un .not (.var 22)) (.const (.bool false))) (.const (.bool true)) (.const (.bool false)))
 (.call (some 23) 240 [(.var 0), (.ld (some 273) (.var 6)), (.ld (some 11) (.ixArr 11 11 (.offp 0 (.var 6)) (.const (.int .i64 2)))), (.const (.int .i64 0)), (.ld none (.offp 2 (.var 7)))] [])
 (.clr [23]))
 (.set 5 (.pick (.pick (.pick (.var 21) (.un .not (.var 22)) (.const (.bool false))) (.var 23) (.const (.bool false))) (.bin .eql (.ld none (.offp 0 (.ixArr 11 11 (.offp 0 (.var 6)) (.const (.int .i64 3))))) (.const (.int .i64 1))) (.const (.bool false)))))))))
 .ret)
 (.seq
 (.set 24 (.bin .eql (.var 10) (.const (.int .i32 88))))
 (.cond (.var 24)
 (.seq
 (.seq
 (.call (some 25) 296 [(.ld (some 4) (.var 7))] [])
 (.seq
 (.chk [(.pick (.var 25) (.var 3) (.const (.bool false))), (.pick (.var 25) (.var 0) (.const (.bool false)))])
 (.seq
 (.cond (.pick (.var 25) (.const (.bool true)) (.const (.bool false)))
 (.call (some 26) 297 [(.var 0), (.var 3)] [])
 (.clr [26]))
 (.set 5 (.pick (.var 25) (.un .not (.var 26)) (.const (.bool false)))))))
 .ret)
 (.seq
 (.set 27 (.bin .eql (.var 10) (.const (.int .i32 89))))
 (.cond (.var 27)
 (.seq
 (.seq
 (.call (some 28) 296 [(.ld (some 4) (.var 7))] [])
 (.set 5 (.var 28)))
 .ret)
 .skip))))))))))))))
 (.seq
 (.set 5 (.const (.bool false)))
 .ret)))),
  [(.var 5)]⟩
theorem okx_237 : FnOk Tryz.prog 2 377 237 xf237 := fnOk_of Tryz.func237 (np := 5) (V := [0, 1, 2, 3, 4, 10, 6, 9, 19, 11, 20, 21, 24, 29, 32, 40, 48, 51, 59, 70, 79, 82, 86, 97, 106, 109, 113, 116, 119]) (ks := []) (by kernel_rfl)

/- (*tipstaff/verify.checker).filled -/
def xf238 : XF := ⟨4, [0, 1, 2, 3, 8, 9, 5, 10, 16, 20, 28, 27, 11, 12, 37, 32, 36, 38],
  (.seq
 (.seq
 (.new (some 6) 129 (.var 1))
 (.seq
 (.new (some 4) 129 (.const zA22))
 (.set 5 (.const (.bool false)))))
 (.seq
 (.seq
 (.set 8 (.ld (some 11) (.ixArr 11 11 (.offp 0 (.var 6)) (.var 2))))
 (.seq
 (.new (some 7) 124 (.const zA9))
 (.store 11 (.var 7) (.var 8) [])))
 (.seq
 (.seq
 (.call (some 9) 241 [(.var 0), (.ld (some 11) (.var 7)), (.const (.int .i64 0)), (.var 3)] [])
 (.cond (.un .not (.var 9))
 (.seq
 (.seq
 (.store 273 (.var 4) (.ld (some 273) (.var 6)) [])
 (.set 5 (.const (.bool false))))
 .ret)
 .skip))
 (.seq
 (.cond (.bin .neq (.ld none (.offp 0 (.var 7))) (.const (.int .i64 3)))
 (.seq
 (.seq
 (.store 273 (.var 4) (.ld (some 273) (.var 6)) [])
 (.set 5 (.const (.bool true))))
 .ret)
 .skip)
 (.seq
 (.seq
 (.seq
 (.set 11 (.var 3))
 (.set 10 (.const (.int .i64 0))))
 (.block 0
 (.loop [4, 6, 7, 10, 11]
 (.seq
 (.cond (.bin .lss (.var 10) (.var 11))
 .skip
 (.exit 0))
 (.seq
 (.block 1
 (.seq
 (.set 12 (.var 10))
 (.seq
 (.set 13 (.const (.bool false)))
 (.seq
 (.seq
 .skip
 (.seq
 (.set 15 (.ld (some 273) (.var 6)))
 (.seq
 (.set 16 (.bin .add (.ld none (.offp 9 (.var 7))) (.var 12)))
 (.seq
 (.call (some 14) 228 [(.const (.int .u64 0))] [(.ld none (.offp 9 (.var 7))), (.ld (some 273) (.var 6))])
 (.seq
 (.call (some 17) 242 [(.var 15), (.var 16), (.const (.int .i64 1)), (.var 14)] [])
 (.seq
 (.chk [(.proj 1 (.var 17))])
 (.seq
 (.store 273 (.var 6) (.proj 0 (.var 17)) [])
 (.set 13 (.proj 1 (.var 17))))))))))
 (.cond (.un .not (.var 13))
 (.seq
 (.seq
 (.store 273 (.var 4) (.ld (some 273) (.var 6)) [])
 (.set 5 (.const (.bool false))))
 .ret)
 .skip)))))
 (.set 10 (.bin .add (.var 10) (.const (.int .i64 1)))))))))
 (.seq
 (.seq
 (.store 273 (.var 4) (.ld (some 273) (.var 6)) [])
 (.set 5 (.const (.bool true))))
 .ret)))))),
  [(.ld (some 273) (.var 4)), (.var 5)]⟩
theorem okx_238 : FnOk Tryz.prog 2 377 238 xf238 := fnOk_of Tryz.func238 (np := 4) (V := [0, 1, 2, 3, 8, 9, 5, 10, 16, 20, 28, 27, 11, 12, 37, 32, 36, 38]) (ks := [[4, 6, 7, 10, 11]]) (by kernel_rfl)

/- tipstaff/absreg.Load -/
def xf239 : XF := ⟨3, [0, 1, 2, 6, 7, 3, 13, 8, 9, 17, 48, 51, 53],
  (.seq
 (.seq
 (.new (some 5) 129 (.var 0))
 (.seq
 (.new (some 3) 124 (.const zA9))
 (.set 4 (.const (.bool false)))))
 (.seq
 (.seq
 (.call (some 6) 298 [(.var 1), (.var 2)] [])
 (.seq
 (.chk [(.proj 1 (.var 6))])
 (.seq
 (.set 7 (.proj 0 (.var 6)))
 (.set 8 (.proj 1 (.var 6))))))
 (.seq
 (.seq
 (.call (some 9) 299 [(.var 2)] [])
 (.cond (.pick (.un .not (.var 9)) (.const (.bool true)) (.un .not (.var 8)))
 (.seq
 (.seq
 (.store 11 (.var 3) (.const zA9) [])
 (.set 4 (.const (.bool false))))
 .ret)
 .skip))
 (.seq
 (.cond (.pick (.pick (.bin .eql (.var 2) (.const (.int .i64 8))) (.bin .eql (.bin .rem (.var 7) (.const (.int .i64 8))) (.const (.int .i64 0))) (.const (.bool false))) (.bin .neq (.ld none (.offp 0 (.ixArr 8 11 (.offp 185 (.var 5)) (.bin .quo (.var 7) (.const (.int .i64 8)))))) (.const (.int .i64 0))) (.const (.bool false)))
 (.seq
 (.seq
 (.store 11 (.var 3) (.ld (some 11) (.ixArr 8 11 (.offp 185 (.var 5)) (.bin .quo (.var 7) (.const (.int .i64 8))))) [])
 (.set 4 (.const (.bool true))))
 .ret)
 .skip)
 (.seq
 (.seq
 (.call (some 10) 300 [(.ld (some 273) (.var 5)), (.var 1), (.var 2)] [])
 (.cond (.un .not (.var 10))
 (.seq
 (.seq
 (.store 11 (.var 3) (.const zA9) [])
 (.set 4 (.const (.bool false))))
 .ret)
 .skip))
 (.seq
 (.seq
 (.call (some 11) 295 [] [])
 (.seq
 (.call (some 12) 290 [(.var 11), (.var 2)] [])
 (.seq
 (.chk [(.upd 1 6 (.upd 0 1 (.const zA9) (.const (.int .i64 1))) (.var 12))])
 (.seq
 (.store 11 (.var 3) (.upd 1 6 (.upd 0 1 (.const zA9) (.const (.int .i64 1))) (.var 12)) [])
 (.set 4 (.const (.bool true)))))))
 .ret)))))),
  [(.ld (some 11) (.var 3)), (.var 4)]⟩
theorem okx_239 : FnOk Tryz.prog 2 377 239 xf239 := fnOk_of Tryz.func239 (np := 3) (V := [0, 1, 2, 6, 7, 3, 13, 8, 9, 17, 48, 51, 53]) (ks := []) (by kernel_rfl)

/- (*tipstaff/verify.checker).reads -/
def xf240 : XF := ⟨5, [0, 1, 2, 3, 4, 10, 6, 7, 14, 15, 20, 21, 29, 30, 36, 11, 12, 46],
  (.seq
 (.seq
 (.new (some 6) 129 (.var 1))
 (.seq
 (.new (some 7) 124 (.var 2))
 (.set 5 (.const (.bool false)))))
 (.seq
 (.seq
 (.set 8 (.ld none (.offp 0 (.var 7))))
 (.block 0
 (.seq
 (.set 9 (.bin .eql (.var 8) (.const (.int .i64 2))))
 (.cond (.var 9)
 (.seq
 (.seq
 (.call (some 10) 301 [(.ld (some 11) (.var 7)), (.var 3), (.var 4), (.const (.int .i64 0)), (.const (.int .i64 32))] [])
 (.set 5 (.var 10)))
 .ret)
 (.seq
 (.set 11 (.bin .eql (.var 8) (.const (.int .i64 3))))
 (.cond (.var 11)
 (.seq
 (.seq
 (.call (some 12) 300 [(.ld (some 273) (.var 6)), (.bin .add (.ld none (.offp 9 (.var 7))) (.var 3)), (.var 4)] [])
 (.set 5 (.var 12)))
 .ret)
 (.seq
 (.set 13 (.bin .eql (.var 8) (.const (.int .i64 5))))
 (.cond (.var 13)
 (.seq
 (.seq
 (.call (some 14) 236 [(.var 0), (.ld none (.offp 7 (.var 7)))] [])
 (.seq
 (.chk [(.proj 1 (.var 14)), (.proj 0 (.var 14))])
 (.seq
 (.new (some 15) 24 (.const (.agg (Array.replicate 4 (.int .i64 0)))))
 (.seq
 (.store 4 (.var 15) (.proj 0 (.var 14)) [])
 (.set 16 (.proj 1 (.var 14)))))))
 (.seq
 (.seq
 (.chk [(.pick (.var 16) (.ld none (.offp 2 (.var 15))) (.const (.bool false))), (.pick (.var 16) (.var 4) (.const (.bool false))), (.pick (.var 16) (.var 3) (.const (.bool false))), (.pick (.var 16) (.ld (some 11) (.var 7)) (.const (.bool false)))])
 (.seq
 (.cond (.pick (.var 16) (.const (.bool true)) (.const (.bool false)))
 (.call (some 17) 301 [(.ld (some 11) (.var 7)), (.var 3), (.var 4), (.const (.int .i64 0)), (.ld none (.offp 2 (.var 15)))] [])
 (.clr [17]))
 (.set 5 (.pick (.var 16) (.var 17) (.const (.bool false))))))
 .ret))
 .skip))))))))
 (.seq
 (.set 5 (.const (.bool false)))
 .ret))),
  [(.var 5)]⟩
theorem okx_240 : FnOk Tryz.prog 2 377 240 xf240 := fnOk_of Tryz.func240 (np := 5) (V := [0, 1, 2, 3, 4, 10, 6, 7, 14, 15, 20, 21, 29, 30, 36, 11, 12, 46]) (ks := []) (by kernel_rfl)

/- (*tipstaff/verify.checker).writes -/
def xf241 : XF := ⟨4, [0, 1, 2, 3, 8, 5, 12, 13, 18, 19, 25, 9, 10, 33, 42],
  (.seq
 (.seq
 (.new (some 5) 124 (.var 1))
 (.set 4 (.const (.bool false))))
 (.seq
 (.seq
 (.set 6 (.ld none (.offp 0 (.var 5))))
 (.block 0
 (.seq
 (.set 7 (.bin .eql (.var 6) (.const (.int .i64 3))))
 (.cond (.var 7)
 (.seq
 (.seq
 (.call (some 8) 301 [(.ld (some 11) (.var 5)), (.var 2), (.var 3), (.const (.int .i64 (-64))), (.const (.int .i64 0))] [])
 (.set 4 (.var 8)))
 .ret)
 (.seq
 (.set 9 (.bin .eql (.var 6) (.const (.int .i64 5))))
 (.cond (.var 9)
 (.seq
 (.seq
 (.call (some 10) 236 [(.var 0), (.ld none (.offp 7 (.var 5)))] [])
 (.seq
 (.chk [(.proj 1 (.var 10)), (.proj 0 (.var 10))])
 (.seq
 (.new (some 11) 24 (.const (.agg (Array.replicate 4 (.int .i64 0)))))
 (.seq
 (.store 4 (.var 11) (.proj 0 (.var 10)) [])
 (.set 12 (.proj 1 (.var 10)))))))
 (.seq
 (.seq
 (.chk [(.pick (.var 12) (.ld none (.offp 7 (.var 5))) (.const (.bool false))), (.pick (.var 12) (.var 0) (.const (.bool false)))])
 (.seq
 (.cond (.pick (.var 12) (.const (.bool true)) (.const (.bool false)))
 (.call (some 13) 297 [(.var 0), (.ld none (.offp 7 (.var 5)))] [])
 (.clr [13]))
 (.seq
 (.chk [(.pick (.pick (.var 12) (.un .not (.var 13)) (.const (.bool false))) (.ld none (.offp 2 (.var 11))) (.const (.bool false))), (.pick (.pick (.var 12) (.un .not (.var 13)) (.const (.bool false))) (.var 3) (.const (.bool false))), (.pick (.pick (.var 12) (.un .not (.var 13)) (.const (.bool false))) (.var 2) (.const (.bool false))), (.pick (.pick (.var 12) (.un .not (.var 13)) (.const (.bool false))) (.ld (some 11) (.var 5)) (.const (.bool false)))])
 (.seq
 (.cond (.pick (.pick (.var 12) (.un .not (.var 13)) (.const (.bool false))) (.const (.bool true)) (.const (.bool false)))
 (.call (some 14) 301 [(.ld (some 11) (.var 5)), (.var 2), (.var 3), (.const (.int .i64 0)), (.ld none (.offp 2 (.var 11)))] [])
 (.clr [14]))
 (.set 4 (.pick (.pick (.var 12) (.un .not (.var 13)) (.const (.bool false))) (.var 14) (.const (.bool false))))))))
 .ret))
 .skip))))))
 (.seq
 (.set 4 (.const (.bool false)))
 .ret))),
  [(.var 4)]⟩
theorem okx_241 : FnOk Tryz.prog 2 377 241 xf241 := fnOk_of Tryz.func241 (np := 4) (V := [0, 1, 2, 3, 8, 5, 12, 13, 18, 19, 25, 9, 10, 33, 42]) (ks := []) (by kernel_rfl)

/- tipstaff/absreg.Save -/
def xf242 : XF := ⟨4, [0, 1, 2, 3, 8, 9, 4, 7, 19, 10, 11, 12, 30, 13, 14, 15],
  (.seq
 (.seq
 (.new (some 6) 129 (.var 0))
 (.seq
 (.new (some 7) 124 (.var 3))
 (.seq
 (.new (some 4) 129 (.const zA22))
 (.set 5 (.const (.bool false))))))
 (.seq
 (.seq
 (.call (some 8) 298 [(.var 1), (.var 2)] [])
 (.seq
 (.chk [(.proj 1 (.var 8))])
 (.seq
 (.set 9 (.proj 0 (.var 8)))
 (.set 10 (.proj 1 (.var 8))))))
 (.seq
 (.set 11 (.pick (.bin .eql (.var 2) (.const (.int .i64 8))) (.bin .eql (.bin .rem (.var 9) (.const (.int .i64 8))) (.const (.int .i64 0))) (.const (.bool false))))
 (.seq
 (.seq
 (.call (some 12) 299 [(.var 2)] [])
 (.cond (.pick (.pick (.pick (.un .not (.var 12)) (.const (.bool true)) (.un .not (.var 10))) (.const (.bool true)) (.bin .eql (.ld none (.offp 0 (.var 7))) (.const (.int .i64 0)))) (.const (.bool true)) (.pick (.bin .neq (.ld none (.offp 0 (.var 7))) (.const (.int .i64 1))) (.un .not (.var 11)) (.const (.bool false))))
 (.seq
 (.seq
 (.store 273 (.var 4) (.ld (some 273) (.var 6)) [])
 (.set 5 (.const (.bool false))))
 .ret)
 .skip))
 (.seq
 (.seq
 (.set 13 (.var 9))
 (.block 0
 (.loop [2, 4, 6, 7, 9, 13]
 (.seq
 (.cond (.bin .lss (.var 13) (.bin .add (.var 9) (.var 2)))
 .skip
 (.exit 0))
 (.seq
 (.block 1
 (.seq
 (.set 14 (.bin .quo (.var 13) (.const (.int .i64 8))))
 (.seq
 (.cond (.bin .eql (.ld none (.offp 0 (.ixArr 8 11 (.offp 185 (.var 6)) (.var 14)))) (.const (.int .i64 0)))
 (.exit 1)
 .skip)
 (.seq
 (.store 11 (.ixArr 8 11 (.offp 185 (.var 6)) (.var 14)) (.const zA9) [])
 (.clear [(.bool false)] (.slArr 64 1 (.offp 121 (.var 6)) (.bin .mul (.var 14) (.const (.int .i64 8))) (.bin .mul (.bin .add (.var 14) (.const (.int .i64 1))) (.const (.int .i64 8)))) [])))))
 (.set 13 (.bin .add (.var 13) (.const (.int .i64 1)))))))))
 (.seq
 (.seq
 (.set 15 (.var 9))
 (.block 2
 (.loop [2, 4, 6, 7, 9, 15]
 (.seq
 (.cond (.bin .lss (.var 15) (.bin .add (.var 9) (.var 2)))
 .skip
 (.exit 2))
 (.seq
 (.block 3
 (.store 1 (.ixArr 64 1 (.offp 121 (.var 6)) (.var 15)) (.bin .eql (.ld none (.offp 0 (.var 7))) (.const (.int .i64 1))) []))
 (.set 15 (.bin .add (.var 15) (.const (.int .i64 1)))))))))
 (.seq
 (.cond (.bin .neq (.ld none (.offp 0 (.var 7))) (.const (.int .i64 1)))
 (.store 11 (.ixArr 8 11 (.offp 185 (.var 6)) (.bin .quo (.var 9) (.const (.int .i64 8)))) (.ld (some 11) (.var 7)) [])
 .skip)
 (.seq
 (.seq
 (.store 273 (.var 4) (.ld (some 273) (.var 6)) [])
 (.set 5 (.const (.bool true))))
 .ret)))))))),
  [(.ld (some 273) (.var 4)), (.var 5)]⟩
theorem okx_242 : FnOk Tryz.prog 2 377 242 xf242 := fnOk_of Tryz.func242 (np := 4) (V := [0, 1, 2, 3, 8, 9, 4, 7, 19, 10, 11, 12, 30, 13, 14, 15]) (ks := [[2, 4, 6, 7, 9, 13], [2, 4, 6, 7, 9, 15]]) (by kernel_rfl)

/- tipstaff/scalar.plain -/
def xf244 : XF := ⟨3, [0, 1, 2, 6, 7, 8, 13, 18, 23, 28, 33, 37, 42, 45, 52],
  (.seq
 (.set 3 (.const (.int .u64 0)))
 (.seq
 (.seq
 (.set 4 (.var 0))
 (.block 0
 (.seq
 (.set 5 (.bin .eql (.var 4) (.const (.int .i64 0))))
 (.cond (.var 5)
 (.seq
 (.set 3 (.bin .add (.var 1) (.var 2)))
 .ret)
 (.seq
 (.set 6 (.bin .eql (.var 4) (.const (.int .i64 1))))
 (.cond (.var 6)
 (.seq
 (.set 3 (.bin .sub (.var 1) (.var 2)))
 .ret)
 (.seq
 (.set 7 (.bin .eql (.var 4) (.const (.int .i64 2))))
 (.cond (.var 7)
 (.seq
 (.set 3 (.bin .mul (.var 1) (.var 2)))
 .ret)
 (.seq
 (.set 8 (.bin .eql (.var 4) (.const (.int .i64 4))))
 (.cond (.var 8)
 (.seq
 (.set 3 (.bin .or (.var 1) (.var 2)))
 .ret)
 (.seq
 (.set 9 (.bin .eql (.var 4) (.const (.int .i64 5))))
 (.cond (.var 9)
 (.seq
 (.set 3 (.bin .and (.var 1) (.var 2)))
 .ret)
 (.seq
 (.set 10 (.bin .eql (.var 4) (.const (.int .i64 8))))
 (.cond (.var 10)
 (.seq
 (.set 3 (.un .neg (.var 1)))
 .ret)
 (.seq
 (.set 11 (.bin .eql (.var 4) (.const (.int .i64 10))))
 (.cond (.var 11)
 (.seq
 (.set 3 (.bin .xor (.var 1) (.var 2)))
 .ret)
 (.seq
 (.set 12 (.bin .eql (.var 4) (.const (.int .i64 11))))
 (.cond (.var 12)
 (.seq
 (.set 3 (.var 2))
 .ret)
 (.seq
 (.set 13 (.bin .eql (.var 4) (.const (.int .i64 3))))
 (.cond (.var 13)
 (.cond (.bin .neq (.var 2) (.const (.int .u64 0)))
 (.seq
 (.set 3 (.bin .quo (.var 1) (.var 2)))
 .ret)
 .skip)
 (.seq
 (.set 14 (.bin .eql (.var 4) (.const (.int .i64 9))))
 (.cond (.var 14)
 (.seq
 (.cond (.bin .neq (.var 2) (.const (.int .u64 0)))
 (.seq
 (.set 3 (.bin .rem (.var 1) (.var 2)))
 .ret)
 .skip)
 (.seq
 (.set 3 (.var 1))
 .ret))
 .skip))))))))))))))))))))))
 (.seq
 (.set 3 (.const (.int .u64 0)))
 .ret))),
  [(.var 3)]⟩
theorem okx_244 : FnOk Tryz.prog 2 377 244 xf244 := fnOk_of Tryz.func244 (np := 3) (V := [0, 1, 2, 6, 7, 8, 13, 18, 23, 28, 33, 37, 42, 45, 52]) (ks := []) (by kernel_rfl)

/- tipstaff/vm.place -/
def xf245 : XF := ⟨1, [0, 2, 1],
  (.seq
 (.seq
 (.new (some 2) 138 (.var 0))
 (.set 1 (.const (.bool false))))
 (.seq
 (.set 1 (.pick (.pick (.bin .eql (.ld none (.offp 0 (.var 2))) (.const (.int .i64 2))) (.const (.bool true)) (.bin .eql (.ld none (.offp 0 (.var 2))) (.const (.int .i64 3)))) (.const (.bool true)) (.bin .eql (.ld none (.offp 0 (.var 2))) (.const (.int .i64 5)))))
 .ret)),
  [(.var 1)]⟩
theorem okx_245 : FnOk Tryz.prog 2 377 245 xf245 := fnOk_of Tryz.func245 (np := 1) (V := [0, 2, 1]) (ks := []) (by kernel_rfl)

/- tipstaff/vm.further -/
def xf246 : XF := ⟨2, [0, 1, 4, 2],
  (.seq
 (.seq
 (.new (some 3) 138 (.var 0))
 (.new (some 2) 138 (.const (.agg #[(.int .i64 0), (.int .u64 0), (.int .i64 0), (.pointer none)]))))
 (.seq
 (.store 1 (.offp 1 (.var 3)) (.bin .add (.ld none (.offp 1 (.var 3))) (.var 1)) [])
 (.seq
 (.store 4 (.var 2) (.ld (some 4) (.var 3)) [])
 .ret))),
  [(.ld (some 4) (.var 2))]⟩
theorem okx_246 : FnOk Tryz.prog 2 377 246 xf246 := fnOk_of Tryz.func246 (np := 2) (V := [0, 1, 4, 2]) (ks := []) (by kernel_rfl)

/- (*tipstaff/vm.machine).argMap -/
def xf249 : XF := ⟨1, [0, 2, 20],
  (.seq
 (.set 1 (.const (.pointer none)))
 (.seq
 (.cond (.bin .neq (.ld none (.offp 0 (.ixArr 11 4 (.offp 38 (.nn (.var 0))) (.const (.int .i64 1))))) (.const (.int .i64 4)))
 (.seq
 (.set 1 (.const (.pointer none)))
 .ret)
 .skip)
 (.seq
 (.seq
 .skip
 (.seq
 (.call (some 2) 171 [(.ld none (.offp 37 (.nn (.var 0)))), (.ld none (.offp 2 (.ixArr 11 4 (.offp 38 (.nn (.var 0))) (.const (.int .i64 1)))))] [])
 (.set 1 (.var 2))))
 .ret))),
  [(.var 1)]⟩
theorem okx_249 : FnOk Tryz.prog 2 377 249 xf249 := fnOk_of Tryz.func249 (np := 1) (V := [0, 2, 20]) (ks := []) (by kernel_rfl)

/- (*tipstaff/vm.machine).find -/
def xf250 : XF := ⟨2, [0, 1, 4, 5, 13, 15, 6, 7, 22, 28, 8, 9, 33],
  (.seq
 (.seq
 (.new (some 2) 138 (.const (.agg #[(.int .i64 0), (.int .u64 0), (.int .i64 0), (.pointer none)])))
 (.set 3 (.const (.bool false))))
 (.seq
 (.seq
 (.chk [(.var 0)])
 (.seq
 (.call (some 4) 112 [(.var 1)] [])
 (.seq
 (.call (some 5) 302 [(.var 0), (.const (.int .i64 2)), (.part none 1 (.var 4))] [])
 (.seq
 (.chk [(.proj 1 (.var 5))])
 (.seq
 (.set 6 (.proj 0 (.var 5)))
 (.set 7 (.proj 1 (.var 5))))))))
 (.seq
 (.seq
 (.seq
 (.chk [(.pick (.un .not (.var 7)) (.const (.bool false)) (.var 1))])
 (.cond (.pick (.un .not (.var 7)) (.const (.bool false)) (.const (.bool true)))
 (.call (some 8) 303 [(.var 1)] [])
 (.clr [8])))
 (.cond (.pick (.un .not (.var 7)) (.const (.bool true)) (.var 8))
 (.seq
 (.seq
 (.store 4 (.var 2) (.const (.agg #[(.int .i64 0), (.int .u64 0), (.int .i64 0), (.pointer none)])) [])
 (.set 3 (.const (.bool false))))
 .ret)
 .skip))
 (.seq
 (.seq
 (.call (some 9) 304 [(.var 1), (.var 6)] [])
 (.seq
 (.chk [(.proj 1 (.var 9))])
 (.seq
 (.set 10 (.proj 0 (.var 9)))
 (.set 11 (.proj 1 (.var 9))))))
 (.seq
 (.cond (.bin .neq (.var 11) (.const (.int .i64 0)))
 (.seq
 (.seq
 (.call (some 12) 163 [(.const (.int .u64 0))] [])
 (.seq
 (.store 4 (.var 2) (.var 12) [])
 (.set 3 (.const (.bool true)))))
 .ret)
 .skip)
 (.seq
 (.seq
 (.chk [(.upd 3 1 (.upd 2 1 (.upd 0 1 (.const (.agg #[(.int .i64 0), (.int .u64 0), (.int .i64 0), (.pointer none)])) (.const (.int .i64 5))) (.ld none (.offp 2 (.ixArr 11 4 (.offp 38 (.nn (.var 0))) (.const (.int .i64 1)))))) (.var 10))])
 (.seq
 (.store 4 (.var 2) (.upd 3 1 (.upd 2 1 (.upd 0 1 (.const (.agg #[(.int .i64 0), (.int .u64 0), (.int .i64 0), (.pointer none)])) (.const (.int .i64 5))) (.ld none (.offp 2 (.ixArr 11 4 (.offp 38 (.nn (.var 0))) (.const (.int .i64 1)))))) (.var 10)) [])
 (.set 3 (.const (.bool true)))))
 .ret)))))),
  [(.ld (some 4) (.var 2)), (.var 3)]⟩
theorem okx_250 : FnOk Tryz.prog 2 377 250 xf250 := fnOk_of Tryz.func250 (np := 2) (V := [0, 1, 4, 5, 13, 15, 6, 7, 22, 28, 8, 9, 33]) (ks := []) (by kernel_rfl)

/- (*tipstaff/vm.machine).add -/
def xf252 : XF := ⟨2, [0, 1, 4, 5, 11, 13, 6, 7, 20, 25, 45, 46],
  (.seq
 (.seq
 (.new (some 2) 138 (.const (.agg #[(.int .i64 0), (.int .u64 0), (.int .i64 0), (.pointer none)])))
 (.set 3 (.const (.bool false))))
 (.seq
 (.seq
 (.chk [(.var 0)])
 (.seq
 (.call (some 4) 112 [(.var 1)] [])
 (.seq
 (.call (some 5) 302 [(.var 0), (.const (.int .i64 2)), (.part none 2 (.var 4))] [])
 (.seq
 (.chk [(.proj 1 (.var 5))])
 (.seq
 (.set 6 (.proj 0 (.var 5)))
 (.set 7 (.proj 1 (.var 5))))))))
 (.seq
 (.seq
 (.seq
 (.chk [(.pick (.un .not (.var 7)) (.const (.bool false)) (.var 1))])
 (.seq
 (.cond (.pick (.un .not (.var 7)) (.const (.bool false)) (.const (.bool true)))
 (.call (some 8) 303 [(.var 1)] [])
 (.clr [8]))
 (.seq
 (.chk [(.pick (.pick (.un .not (.var 7)) (.const (.bool true)) (.un .not (.var 8))) (.const (.bool false)) (.var 1))])
 (.cond (.pick (.pick (.un .not (.var 7)) (.const (.bool true)) (.un .not (.var 8))) (.const (.bool false)) (.const (.bool true)))
 (.call (some 9) 113 [(.var 1)] [])
 (.clr [9])))))
 (.cond (.pick (.pick (.pick (.un .not (.var 7)) (.const (.bool true)) (.un .not (.var 8))) (.const (.bool true)) (.var 9)) (.const (.bool true)) (.bin .neq (.ld none (.offp 0 (.ixArr 11 4 (.offp 38 (.nn (.var 0))) (.const (.int .i64 3))))) (.const (.int .i64 1))))
 (.seq
 (.seq
 (.store 4 (.var 2) (.const (.agg #[(.int .i64 0), (.int .u64 0), (.int .i64 0), (.pointer none)])) [])
 (.set 3 (.const (.bool false))))
 .ret)
 .skip))
 (.seq
 (.seq
 (.call (some 10) 306 [(.var 1), (.var 6), (.ld none (.offp 1 (.ixArr 11 4 (.offp 38 (.nn (.var 0))) (.const (.int .i64 3)))))] [])
 (.seq
 (.call (some 11) 305 [(.var 10)] [])
 (.seq
 (.store 4 (.var 2) (.var 11) [])
 (.set 3 (.const (.bool true))))))
 .ret)))),
  [(.ld (some 4) (.var 2)), (.var 3)]⟩
theorem okx_252 : FnOk Tryz.prog 2 377 252 xf252 := fnOk_of Tryz.func252 (np := 2) (V := [0, 1, 4, 5, 11, 13, 6, 7, 20, 25, 45, 46]) (ks := []) (by kernel_rfl)

/- (*tipstaff/vm.machine).next -/
def xf253 : XF := ⟨3, [0, 1, 2, 6, 7, 11, 18, 32, 34, 25, 30, 35, 41, 8, 9, 48, 54, 56, 60, 65, 67],
  (.seq
 (.seq
 (.new (some 3) 138 (.const (.agg #[(.int .i64 0), (.int .u64 0), (.int .i64 0), (.pointer none)])))
 (.set 4 (.const (.bool false))))
 (.seq
 (.seq
 (.seq
 .skip
 (.seq
 (.call (some 5) 303 [(.var 2)] [])
 (.seq
 (.chk [(.pick (.un .not (.var 5)) (.const (.bool false)) (.pick (.bin .eql (.var 1) (.const (.int .i32 88))) (.var 2) (.const (.bool false))))])
 (.seq
 (.cond (.pick (.un .not (.var 5)) (.const (.bool false)) (.pick (.bin .eql (.var 1) (.const (.int .i32 88))) (.const (.bool true)) (.const (.bool false))))
 (.call (some 6) 113 [(.var 2)] [])
 (.clr [6]))
 (.seq
 (.chk [(.pick (.pick (.un .not (.var 5)) (.const (.bool true)) (.pick (.bin .eql (.var 1) (.const (.int .i32 88))) (.var 6) (.const (.bool false)))) (.const (.bool false)) (.offp 37 (.nn (.var 0))))])
 (.seq
 (.cond (.pick (.pick (.un .not (.var 5)) (.const (.bool true)) (.pick (.bin .eql (.var 1) (.const (.int .i32 88))) (.var 6) (.const (.bool false)))) (.const (.bool false)) (.const (.bool true)))
 (.set 9 (.ld none (.offp 37 (.nn (.var 0)))))
 (.clr [9]))
 (.seq
 (.chk [(.pick (.pick (.un .not (.var 5)) (.const (.bool true)) (.pick (.bin .eql (.var 1) (.const (.int .i32 88))) (.var 6) (.const (.bool false)))) (.const (.bool false)) (.ixArr 11 4 (.offp 38 (.nn (.var 0))) (.const (.int .i64 2))))])
 (.seq
 (.cond (.pick (.pick (.un .not (.var 5)) (.const (.bool true)) (.pick (.bin .eql (.var 1) (.const (.int .i32 88))) (.var 6) (.const (.bool false)))) (.const (.bool false)) (.const (.bool true)))
 (.set 10 (.ld (some 4) (.ixArr 11 4 (.offp 38 (.nn (.var 0))) (.const (.int .i64 2)))))
 (.clr [10]))
 (.seq
 (.chk [(.pick (.pick (.un .not (.var 5)) (.const (.bool true)) (.pick (.bin .eql (.var 1) (.const (.int .i32 88))) (.var 6) (.const (.bool false)))) (.const (.bool false)) (.var 2))])
 (.seq
 (.cond (.pick (.pick (.un .not (.var 5)) (.const (.bool true)) (.pick (.bin .eql (.var 1) (.const (.int .i32 88))) (.var 6) (.const (.bool false)))) (.const (.bool false)) (.const (.bool true)))
 (.call (some 7) 112 [(.var 2)] [(.ld (some 4) (.ixArr 11 4 (.offp 38 (.nn (.var 0))) (.const (.int .i64 2)))), (.ld none (.offp 37 (.nn (.var 0))))])
 (.clr [7]))
 (.seq
 (.chk [(.pick (.pick (.un .not (.var 5)) (.const (.bool true)) (.pick (.bin .eql (.var 1) (.const (.int .i32 88))) (.var 6) (.const (.bool false)))) (.const (.bool false)) (.part none 2 (.var 7)))])
 (.seq
 (.cond (.pick (.pick (.un .not (.var 5)) (.const (.bool true)) (.pick (.bin .eql (.var 1) (.const (.int .i32 88))) (.var 6) (.const (.bool false)))) (.const (.bool false)) (.const (.bool true)))
 (.mk (some 8) 5 [(.int .u8 0)] (.part none 2 (.var 7)) (.part none 2 (.var 7)) [(.ld (some 4) (.ixArr 11 4 (.offp 38 (.nn (.var 0))) (.const (.int .i64 2)))), (.ld none (.offp 37 (.nn (.var 0))))])
 (.clr [8]))
 (.cond (.pick (.pick (.un .not (.var 5)) (.const (.bool true)) (.pick (.bin .eql (.var 1) (.const (.int .i32 88))) (.var 6) (.const (.bool false)))) (.const (.bool false)) (.const (.bool true)))
 (.call (some 11) 307 [(.var 9), (.var 10), (.var 8)] [])
 (.clr [11]))))))))))))))
 (.cond (.pick (.pick (.un .not (.var 5)) (.const (.bool true)) (.pick (.bin .eql (.var 1) (.const (.int .i32 88))) (.var 6) (.const (.bool false)))) (.const (.bool true)) (.bin .neq (.var 11) (.const (.int .i64 0))))
 (.seq
 (.seq
 (.store 4 (.var 3) (.const (.agg #[(.int .i64 0), (.int .u64 0), (.int .i64 0), (.pointer none)])) [])
 (.set 4 (.const (.bool false))))
 .ret)
 .skip))
 (.seq
 (.seq
 (.call (some 12) 308 [(.var 2)] [])
 (.seq
 (.chk [(.proj 1 (.var 12))])
 (.seq
 (.set 13 (.proj 0 (.var 12)))
 (.set 14 (.proj 1 (.var 12))))))
 (.seq
 (.cond (.bin .eql (.var 1) (.const (.int .i32 88)))
 (.seq
 (.call (some 15) 309 [(.var 2)] [])
 (.seq
 (.chk [(.proj 1 (.var 15))])
 (.seq
 (.set 13 (.proj 0 (.var 15)))
 (.set 14 (.proj 1 (.var 15))))))
 .skip)
 (.seq
 (.cond (.bin .neq (.var 14) (.const (.int .i64 0)))
 (.seq
 (.seq
 (.call (some 16) 305 [(.var 14)] [])
 (.seq
 (.store 4 (.var 3) (.var 16) [])
 (.set 4 (.const (.bool true)))))
 .ret)
 .skip)
 (.seq
 (.seq
 .skip
 (.seq
 (.chk [(.var 14)])
 (.seq
 (.set 18 (.ld none (.offp 37 (.nn (.var 0)))))
 (.seq
 (.set 19 (.ld (some 4) (.ixArr 11 4 (.offp 38 (.nn (.var 0))) (.const (.int .i64 2)))))
 (.seq
 (.chk [(.var 13)])
 (.seq
 (.call (some 17) 305 [(.var 14)] [(.ld (some 4) (.ixArr 11 4 (.offp 38 (.nn (.var 0))) (.const (.int .i64 2)))), (.ld none (.offp 37 (.nn (.var 0))))])
 (.seq
 (.call (some 20) 307 [(.var 18), (.var 19), (.var 13)] [])
 (.seq
 (.chk [(.bin .eql (.var 20) (.const (.int .i64 0)))])
 (.seq
 (.store 4 (.var 3) (.var 17) [])
 (.set 4 (.bin .eql (.var 20) (.const (.int .i64 0)))))))))))))
 .ret)))))),
  [(.ld (some 4) (.var 3)), (.var 4)]⟩
theorem okx_253 : FnOk Tryz.prog 2 377 253 xf253 := fnOk_of Tryz.func253 (np := 3) (V := [0, 1, 2, 6, 7, 11, 18, 32, 34, 25, 30, 35, 41, 8, 9, 48, 54, 56, 60, 65, 67]) (ks := []) (by kernel_rfl)

/- tipstaff/region.sized -/
def xf254 : XF := ⟨1, [0, 2],
  (.seq
 (.set 1 (.const (.bool false)))
 (.seq
 (.set 1 (.pick (.pick (.pick (.bin .eql (.var 0) (.const (.int .i64 1))) (.const (.bool true)) (.bin .eql (.var 0) (.const (.int .i64 2)))) (.const (.bool true)) (.bin .eql (.var 0) (.const (.int .i64 4)))) (.const (.bool true)) (.bin .eql (.var 0) (.const (.int .i64 8)))))
 .ret)),
  [(.var 1)]⟩
theorem okx_254 : FnOk Tryz.prog 2 377 254 xf254 := fnOk_of Tryz.func254 (np := 1) (V := [0, 2]) (ks := []) (by kernel_rfl)

/- (*tipstaff/region.Memory).view -/
def xf255 : XF := ⟨4, [0, 1, 2, 3, 8, 9, 10, 5, 21, 11, 12, 29, 13, 14, 15],
  (.seq
 (.seq
 (.new (some 7) 138 (.var 1))
 (.seq
 (.set 4 (.const (.slice none 0 0)))
 (.seq
 (.set 5 (.const (.int .i64 0)))
 (.set 6 (.const (.bool false))))))
 (.seq
 (.cond (.isnil 0 false (.var 0))
 (.seq
 (.seq
 (.set 4 (.const (.slice none 0 0)))
 (.seq
 (.set 5 (.const (.int .i64 0)))
 (.set 6 (.const (.bool false)))))
 .ret)
 .skip)
 (.seq
 (.seq
 (.call (some 8) 310 [(.var 0), (.ld (some 4) (.var 7))] [])
 (.seq
 (.chk [(.proj 1 (.var 8))])
 (.seq
 (.set 9 (.proj 0 (.var 8)))
 (.set 10 (.proj 1 (.var 8))))))
 (.seq
 (.seq
 (.call (some 11) 311 [(.conv .i64 (.ld none (.offp 1 (.var 7)))), (.var 2)] [])
 (.seq
 (.chk [(.proj 1 (.var 11))])
 (.seq
 (.set 12 (.proj 0 (.var 11)))
 (.set 13 (.proj 1 (.var 11))))))
 (.seq
 (.cond (.pick (.pick (.pick (.isnil 1 false (.var 9)) (.const (.bool true)) (.un .not (.var 13))) (.const (.bool true)) (.bin .lss (.var 12) (.un .neg (.var 10)))) (.const (.bool true)) (.bin .gtr (.var 12) (.bin .sub (.bin .sub (.len false (.var 9)) (.var 10)) (.var 3))))
 (.seq
 (.seq
 (.set 4 (.const (.slice none 0 0)))
 (.seq
 (.set 5 (.const (.int .i64 0)))
 (.set 6 (.const (.bool false)))))
 .ret)
 .skip)
 (.seq
 (.set 14 (.bin .add (.var 12) (.var 10)))
 (.seq
 (.seq
 (.set 4 (.slSl 1 (.var 9) (.var 14) (.bin .add (.var 14) (.var 3))))
 (.seq
 (.set 5 (.var 14))
 (.set 6 (.const (.bool true)))))
 .ret))))))),
  [(.var 4), (.var 5), (.var 6)]⟩
theorem okx_255 : FnOk Tryz.prog 2 377 255 xf255 := fnOk_of Tryz.func255 (np := 4) (V := [0, 1, 2, 3, 8, 9, 10, 5, 21, 11, 12, 29, 13, 14, 15]) (ks := []) (by kernel_rfl)

/- tipstaff/region.exact -/
def xf256 : XF := ⟨3, [0, 1, 2, 6, 3],
  (.seq
 (.seq
 (.new (some 4) 138 (.var 0))
 (.set 3 (.const (.bool false))))
 (.seq
 (.set 3 (.pick (.pick (.bin .eql (.ld none (.offp 0 (.var 4))) (.const (.int .i64 3))) (.bin .eql (.var 2) (.const (.int .i64 8))) (.const (.bool false))) (.bin .eql (.bin .rem (.var 1) (.const (.int .i64 8))) (.const (.int .i64 0))) (.const (.bool false))))
 .ret)),
  [(.var 3)]⟩
theorem okx_256 : FnOk Tryz.prog 2 377 256 xf256 := fnOk_of Tryz.func256 (np := 3) (V := [0, 1, 2, 6, 3]) (ks := []) (by kernel_rfl)

/- (*tipstaff/region.Memory).ready -/
def xf257 : XF := ⟨3, [0, 1, 2, 6, 7],
  (.seq
 (.set 3 (.const (.bool false)))
 (.seq
 (.seq
 (.set 4 (.var 1))
 (.block 0
 (.loop [0, 1, 2, 4]
 (.seq
 (.cond (.bin .lss (.var 4) (.bin .add (.var 1) (.var 2)))
 .skip
 (.exit 0))
 (.seq
 (.block 1
 (.cond (.pick (.un .not (.ld none (.ixArr 64 1 (.offp 96 (.nn (.var 0))) (.var 4)))) (.const (.bool true)) (.bin .neq (.ld none (.offp 0 (.ixArr 8 4 (.offp 160 (.nn (.var 0))) (.bin .quo (.var 4) (.const (.int .i64 8)))))) (.const (.int .i64 0))))
 (.seq
 (.set 3 (.const (.bool false)))
 .ret)
 .skip))
 (.set 4 (.bin .add (.var 4) (.const (.int .i64 1)))))))))
 (.seq
 (.set 3 (.const (.bool true)))
 .ret))),
  [(.var 3)]⟩
theorem okx_257 : FnOk Tryz.prog 2 377 257 xf257 := fnOk_of Tryz.func257 (np := 3) (V := [0, 1, 2, 6, 7]) (ks := [[0, 1, 2, 4]]) (by kernel_rfl)

/- tipstaff/region.little -/
def xf258 : XF := ⟨1, [0, 2, 3, 8, 7, 6, 4, 5],
  (.seq
 (.set 1 (.const (.int .u64 0)))
 (.seq
 (.set 2 (.const (.int .u64 0)))
 (.seq
 (.seq
 (.seq
 (.set 5 (.var 0))
 (.seq
 (.set 4 (.len false (.var 5)))
 (.set 3 (.const (.int .i64 0)))))
 (.block 0
 (.loop [2, 3, 4, 5]
 (.seq
 (.cond (.bin .lss (.var 3) (.var 4))
 .skip
 (.exit 0))
 (.seq
 (.block 1
 (.seq
 (.seq
 (.chk [(.ld none (.ixSl 1 (.var 5) (.var 3)))])
 (.seq
 (.set 6 (.var 3))
 (.set 7 (.ld none (.ixSl 1 (.var 5) (.var 3))))))
 (.set 2 (.bin .or (.var 2) (.bin .shl (.conv .u64 (.var 7)) (.bin .mul (.const (.int .i64 8)) (.var 6)))))))
 (.set 3 (.bin .add (.var 3) (.const (.int .i64 1)))))))))
 (.seq
 (.set 1 (.var 2))
 .ret)))),
  [(.var 1)]⟩
theorem okx_258 : FnOk Tryz.prog 2 377 258 xf258 := fnOk_of Tryz.func258 (np := 1) (V := [0, 2, 3, 8, 7, 6, 4, 5]) (ks := [[2, 3, 4, 5]]) (by kernel_rfl)

/- (*tipstaff/region.Memory).writes -/
def xf259 : XF := ⟨2, [0, 1, 4, 3, 12, 5, 17],
  (.seq
 (.seq
 (.new (some 3) 138 (.var 1))
 (.set 2 (.const (.bool false))))
 (.seq
 (.cond (.bin .eql (.ld none (.offp 0 (.var 3))) (.const (.int .i64 5)))
 (.seq
 (.seq
 (.call (some 4) 171 [(.var 0), (.ld none (.offp 2 (.var 3)))] [])
 (.set 5 (.var 4)))
 (.seq
 (.seq
 (.chk [(.pick (.isnil 0 true (.var 5)) (.var 5) (.const (.bool false)))])
 (.seq
 (.cond (.pick (.isnil 0 true (.var 5)) (.const (.bool true)) (.const (.bool false)))
 (.call (some 6) 113 [(.var 5)] [])
 (.clr [6]))
 (.set 2 (.pick (.isnil 0 true (.var 5)) (.un .not (.var 6)) (.const (.bool false))))))
 .ret))
 .skip)
 (.seq
 (.set 2 (.bin .eql (.ld none (.offp 0 (.var 3))) (.const (.int .i64 3))))
 .ret))),
  [(.var 2)]⟩
theorem okx_259 : FnOk Tryz.prog 2 377 259 xf259 := fnOk_of Tryz.func259 (np := 2) (V := [0, 1, 4, 3, 12, 5, 17]) (ks := []) (by kernel_rfl)

/- (*tipstaff/region.Memory).number -/
def xf260 : XF := ⟨5, [0, 1, 2, 3, 4, 6, 13, 12, 10],
  (.seq
 (.new (some 5) 138 (.var 1))
 (.seq
 (.seq
 (.seq
 (.set 7 (.len false (.var 2)))
 (.set 6 (.const (.int .i64 0))))
 (.block 0
 (.loop [0, 2, 3, 4, 5, 6, 7]
 (.seq
 (.cond (.bin .lss (.var 6) (.var 7))
 .skip
 (.exit 0))
 (.seq
 (.block 1
 (.seq
 (.set 8 (.var 6))
 (.store 1 (.ixSl 1 (.var 2) (.var 8)) (.conv .u8 (.bin .shr (.var 4) (.bin .mul (.const (.int .i64 8)) (.var 8)))) [])))
 (.set 6 (.bin .add (.var 6) (.const (.int .i64 1)))))))))
 (.cond (.bin .eql (.ld none (.offp 0 (.var 5))) (.const (.int .i64 3)))
 (.call none 261 [(.var 0), (.var 3), (.len false (.var 2))] [])
 .skip))),
  []⟩
theorem okx_260 : FnOk Tryz.prog 2 377 260 xf260 := fnOk_of Tryz.func260 (np := 5) (V := [0, 1, 2, 3, 4, 6, 13, 12, 10]) (ks := [[0, 2, 3, 4, 5, 6, 7]]) (by kernel_rfl)

/- (*tipstaff/region.Memory).mark -/
def xf261 : XF := ⟨3, [0, 1, 2, 6, 7, 34, 8, 9],
  (.seq
 (.seq
 (.set 3 (.var 1))
 (.block 0
 (.loop [0, 1, 2, 3]
 (.seq
 (.cond (.bin .lss (.var 3) (.bin .add (.var 1) (.var 2)))
 .skip
 (.exit 0))
 (.seq
 (.block 1
 (.seq
 (.set 4 (.bin .quo (.var 3) (.const (.int .i64 8))))
 (.cond (.bin .neq (.ld none (.offp 0 (.ixArr 8 4 (.offp 160 (.nn (.var 0))) (.var 4)))) (.const (.int .i64 0)))
 (.seq
 (.store 4 (.ixArr 8 4 (.offp 160 (.nn (.var 0))) (.var 4)) (.const (.agg #[(.int .i64 0), (.int .u64 0), (.int .i64 0), (.pointer none)])) [])
 (.seq
 (.set 5 (.const (.int .i64 0)))
 (.block 2
 (.loop [0, 1, 2, 3, 4, 5]
 (.seq
 (.cond (.bin .lss (.var 5) (.const (.int .i64 8)))
 .skip
 (.exit 2))
 (.seq
 (.block 3
 (.seq
 (.set 6 (.var 5))
 (.store 1 (.ixArr 64 1 (.offp 96 (.nn (.var 0))) (.bin .add (.bin .mul (.var 4) (.const (.int .i64 8))) (.var 6))) (.const (.bool false)) [])))
 (.set 5 (.bin .add (.var 5) (.const (.int .i64 1))))))))))
 .skip)))
 (.set 3 (.bin .add (.var 3) (.const (.int .i64 1)))))))))
 (.seq
 (.set 7 (.var 1))
 (.block 4
 (.loop [0, 1, 2, 7]
 (.seq
 (.cond (.bin .lss (.var 7) (.bin .add (.var 1) (.var 2)))
 .skip
 (.exit 4))
 (.seq
 (.block 5
 (.store 1 (.ixArr 64 1 (.offp 96 (.nn (.var 0))) (.var 7)) (.const (.bool true)) []))
 (.set 7 (.bin .add (.var 7) (.const (.int .i64 1)))))))))),
  []⟩
theorem okx_261 : FnOk Tryz.prog 2 377 261 xf261 := fnOk_of Tryz.func261 (np := 3) (V := [0, 1, 2, 6, 7, 34, 8, 9]) (ks := [[0, 1, 2, 3], [0, 1, 2, 3, 4, 5], [0, 1, 2, 7]]) (by kernel_rfl)

/- math/bits.Len -/
def xf266 : XF := ⟨1, [0, 2, 5, 7],
  (.seq
 (.set 1 (.const (.int .i64 0)))
 (.seq
 (.cond (.const (.bool false))
 (.seq
 (.seq
 (.call (some 2) 323 [(.conv .u32 (.var 0))] [])
 (.set 1 (.var 2)))
 .ret)
 .skip)
 (.seq
 (.seq
 (.call (some 3) 324 [(.var 0)] [])
 (.set 1 (.var 3)))
 .ret))),
  [(.var 1)]⟩
theorem okx_266 : FnOk Tryz.prog 2 377 266 xf266 := fnOk_of Tryz.func266 (np := 1) (V := [0, 2, 5, 7]) (ks := []) (by kernel_rfl)

/- slices.pdqsortOrdered[int] -/
def xf282 : XF := ⟨4, [0, 1, 2, 3, 8, 9, 10, 46, 11, 12, 72, 85, 92, 13, 99, 14, 15, 16, 17, 18],
  (.seq
 (.set 4 (.const (.bool true)))
 (.seq
 (.set 5 (.const (.bool true)))
 (.block 0
 (.loop [0, 1, 2, 3, 4, 5]
 (.block 1
 (.seq
 (.set 6 (.bin .sub (.var 2) (.var 1)))
 (.seq
 (.cond (.bin .leq (.var 6) (.const (.int .i64 12)))
 (.seq
 (.call none 331 [(.var 0), (.var 1), (.var 2)] [])
 .ret)
 .skip)
 (.seq
 (.cond (.bin .eql (.var 3) (.const (.int .i64 0)))
 (.seq
 (.call none 332 [(.var 0), (.var 1), (.var 2)] [])
 .ret)
 .skip)
 (.seq
 (.cond (.un .not (.var 4))
 (.seq
 (.call none 333 [(.var 0), (.var 1), (.var 2)] [])
 (.set 3 (.bin .sub (.var 3) (.const (.int .i64 1)))))
 .skip)
 (.seq
 (.seq
 (.call (some 7) 334 [(.var 0), (.var 1), (.var 2)] [])
 (.seq
 (.chk [(.proj 1 (.var 7))])
 (.seq
 (.set 8 (.proj 0 (.var 7)))
 (.set 9 (.proj 1 (.var 7))))))
 (.seq
 (.cond (.bin .eql (.var 9) (.const (.int .i64 2)))
 (.seq
 (.call none 335 [(.var 0), (.var 1), (.var 2)] [])
 (.seq
 (.set 8 (.bin .sub (.bin .sub (.var 2) (.const (.int .i64 1))) (.bin .sub (.var 8) (.var 1))))
 (.set 9 (.const (.int .i64 1)))))
 .skip)
 (.seq
 (.cond (.pick (.pick (.var 4) (.var 5) (.const (.bool false))) (.bin .eql (.var 9) (.const (.int .i64 1))) (.const (.bool false)))
 (.seq
 (.call (some 10) 336 [(.var 0), (.var 1), (.var 2)] [])
 (.cond (.var 10)
 .ret
 .skip))
 .skip)
 (.seq
 (.seq
 (.seq
 .skip
 (.seq
 (.chk [(.pick (.bin .gtr (.var 1) (.const (.int .i64 0))) (.ld none (.ixSl 1 (.var 0) (.var 8))) (.const (.bool false))), (.pick (.bin .gtr (.var 1) (.const (.int .i64 0))) (.ld none (.ixSl 1 (.var 0) (.bin .sub (.var 1) (.const (.int .i64 1))))) (.const (.bool false)))])
 (.cond (.pick (.bin .gtr (.var 1) (.const (.int .i64 0))) (.const (.bool true)) (.const (.bool false)))
 (.call (some 11) 337 [(.ld none (.ixSl 1 (.var 0) (.bin .sub (.var 1) (.const (.int .i64 1))))), (.ld none (.ixSl 1 (.var 0) (.var 8)))] [])
 (.clr [11]))))
 (.cond (.pick (.bin .gtr (.var 1) (.const (.int .i64 0))) (.un .not (.var 11)) (.const (.bool false)))
 (.seq
 (.seq
 (.call (some 12) 338 [(.var 0), (.var 1), (.var 2), (.var 8)] [])
 (.set 13 (.var 12)))
 (.seq
 (.set 1 (.var 13))
 (.exit 1)))
 .skip))
 (.seq
 (.seq
 (.call (some 14) 339 [(.var 0), (.var 1), (.var 2), (.var 8)] [])
 (.seq
 (.chk [(.proj 1 (.var 14))])
 (.seq
 (.set 15 (.proj 0 (.var 14)))
 (.set 16 (.proj 1 (.var 14))))))
 (.seq
 (.set 5 (.var 16))
 (.seq
 (.seq
 (.chk [(.bin .sub (.var 2) (.var 15))])
 (.seq
 (.set 17 (.bin .sub (.var 15) (.var 1)))
 (.set 18 (.bin .sub (.var 2) (.var 15)))))
 (.seq
 (.set 19 (.bin .quo (.var 6) (.const (.int .i64 8))))
 (.cond (.bin .lss (.var 17) (.var 18))
 (.seq
 (.set 4 (.bin .geq (.var 17) (.var 19)))
 (.seq
 (.call none 282 [(.var 0), (.var 1), (.var 15), (.var 3)] [])
 (.set 1 (.bin .add (.var 15) (.const (.int .i64 1))))))
 (.seq
 (.set 4 (.bin .geq (.var 18) (.var 19)))
 (.seq
 (.call none 282 [(.var 0), (.bin .add (.var 15) (.const (.int .i64 1))), (.var 2), (.var 3)] [])
 (.set 2 (.var 15)))))))))))))))))))))),
  []⟩
theorem okx_282 : FnOk Tryz.prog 2 377 282 xf282 := fnOk_of Tryz.func282 (np := 4) (V := [0, 1, 2, 3, 8, 9, 10, 46, 11, 12, 72, 85, 92, 13, 99, 14, 15, 16, 17, 18]) (ks := [[0, 1, 2, 3, 4, 5]]) (by kernel_rfl)

/- tipstaff/cfg.Next -/
def xf284 : XF := ⟨2, [0, 1, 4, 2, 18, 20],
  (.seq
 (.seq
 (.new (some 3) 35 (.var 0))
 (.set 2 (.const (.slice none 0 0))))
 (.seq
 (.cond (.pick (.bin .lss (.var 1) (.const (.int .i64 0))) (.const (.bool true)) (.bin .geq (.var 1) (.len false (.ld none (.var 3)))))
 (.seq
 (.set 2 (.const (.slice none 0 0)))
 .ret)
 .skip)
 (.seq
 (.seq
 (.call (some 4) 342 [(.var 1), (.ld (some 5) (.ixSl 5 (.ld none (.var 3)) (.var 1)))] [])
 (.seq
 (.chk [(.cap1 (.const (.func (.func 343) #[] #[])) (.var 3))])
 (.seq
 (.call (some 5) 341 [(.var 4), (.cap1 (.const (.func (.func 343) #[] #[])) (.var 3))] [])
 (.set 2 (.var 5)))))
 .ret))),
  [(.var 2)]⟩
theorem okx_284 : FnOk Tryz.prog 2 377 284 xf284 := fnOk_of Tryz.func284 (np := 2) (V := [0, 1, 4, 2, 18, 20]) (ks := []) (by kernel_rfl)

/- tipstaff/scalar.Const -/
def xf287 : XF := ⟨1, [0, 2, 4],
  (.seq
 (.new (some 1) 122 (.const zA5))
 (.seq
 (.seq
 (.call (some 2) 345 [(.var 0)] [])
 (.seq
 (.chk [(.upd 5 1 (.upd 4 1 (.upd 3 1 (.upd 2 1 (.upd 0 2 (.const zA5) (.var 2)) (.var 0)) (.var 0)) (.conv .i64 (.var 0))) (.conv .i64 (.var 0)))])
 (.store 6 (.var 1) (.upd 5 1 (.upd 4 1 (.upd 3 1 (.upd 2 1 (.upd 0 2 (.const zA5) (.var 2)) (.var 0)) (.var 0)) (.conv .i64 (.var 0))) (.conv .i64 (.var 0))) [])))
 .ret)),
  [(.ld (some 6) (.var 1))]⟩
theorem okx_287 : FnOk Tryz.prog 2 377 287 xf287 := fnOk_of Tryz.func287 (np := 1) (V := [0, 2, 4]) (ks := []) (by kernel_rfl)

/- tipstaff/scalar.alone -/
def xf288 : XF := ⟨1, [0, 2, 1, 25, 21],
  (.seq
 (.seq
 (.new (some 2) 122 (.var 0))
 (.set 1 (.const (.bool false))))
 (.seq
 (.seq
 (.set 4 (.pick (.pick (.bin .eql (.ld none (.offp 1 (.offp 0 (.var 2)))) (.const (.int .u64 0))) (.bin .eql (.ld none (.offp 2 (.var 2))) (.ld none (.offp 3 (.var 2)))) (.const (.bool false))) (.bin .eql (.ld none (.offp 4 (.var 2))) (.ld none (.offp 5 (.var 2)))) (.const (.bool false))))
 (.seq
 (.chk [(.pick (.var 4) (.ld none (.offp 2 (.var 2))) (.const (.bool false))), (.pick (.var 4) (.ld (some 6) (.var 2)) (.const (.bool false)))])
 (.seq
 (.cond (.pick (.var 4) (.const (.bool true)) (.const (.bool false)))
 (.call (some 3) 346 [(.ld (some 6) (.var 2)), (.ld none (.offp 2 (.var 2)))] [])
 (.clr [3]))
 (.set 1 (.pick (.var 4) (.var 3) (.const (.bool false)))))))
 .ret)),
  [(.var 1)]⟩
theorem okx_288 : FnOk Tryz.prog 2 377 288 xf288 := fnOk_of Tryz.func288 (np := 1) (V := [0, 2, 1, 25, 21]) (ks := []) (by kernel_rfl)

/- tipstaff/scalar.Low -/
def xf290 : XF := ⟨2, [0, 1, 4, 2, 8, 10, 17, 5, 6, 30, 7, 34, 36],
  (.seq
 (.seq
 (.new (some 3) 122 (.var 0))
 (.new (some 2) 122 (.const zA5)))
 (.seq
 (.seq
 (.set 4 (.var 1))
 (.block 0
 (.seq
 (.seq
 (.set 5 (.bin .eql (.var 4) (.const (.int .i64 1))))
 (.cond (.var 5)
 .skip
 (.seq
 (.set 5 (.bin .eql (.var 4) (.const (.int .i64 2))))
 (.cond (.var 5)
 .skip
 (.set 5 (.bin .eql (.var 4) (.const (.int .i64 4))))))))
 (.cond (.var 5)
 .skip
 (.seq
 (.store 6 (.var 2) (.ld (some 6) (.var 3)) [])
 .ret)))))
 (.seq
 (.seq
 (.call (some 6) 353 [(.ld (some 2) (.offp 0 (.var 3))), (.var 1)] [])
 (.seq
 (.new (some 7) 120 (.const (.agg #[(.int .u64 0), (.int .u64 0)])))
 (.store 2 (.var 7) (.var 6) [])))
 (.seq
 (.set 8 (.bin .sub (.bin .shl (.const (.int .u64 1)) (.bin .mul (.const (.int .i64 8)) (.var 1))) (.const (.int .u64 1))))
 (.seq
 (.cond (.bin .leq (.ld none (.offp 3 (.var 3))) (.var 8))
 (.seq
 (.seq
 (.call (some 9) 354 [(.ld none (.offp 2 (.var 3))), (.ld none (.offp 3 (.var 3)))] [])
 (.seq
 (.new (some 10) 122 (.const zA5))
 (.store 6 (.var 10) (.var 9) [])))
 (.seq
 (.store 2 (.offp 0 (.var 10)) (.ld (some 2) (.var 7)) [])
 (.seq
 (.seq
 (.call (some 11) 355 [(.ld (some 6) (.var 10))] [])
 (.store 6 (.var 2) (.var 11) []))
 .ret)))
 .skip)
 (.seq
 (.seq
 (.call (some 12) 356 [(.ld (some 2) (.var 7))] [])
 (.store 6 (.var 2) (.var 12) []))
 .ret)))))),
  [(.ld (some 6) (.var 2))]⟩
theorem okx_290 : FnOk Tryz.prog 2 377 290 xf290 := fnOk_of Tryz.func290 (np := 2) (V := [0, 1, 4, 2, 8, 10, 17, 5, 6, 30, 7, 34, 36]) (ks := []) (by kernel_rfl)

/- tipstaff/verify.place -/
def xf291 : XF := ⟨1, [0, 2, 1],
  (.seq
 (.seq
 (.new (some 2) 124 (.var 0))
 (.set 1 (.const (.bool false))))
 (.seq
 (.set 1 (.pick (.pick (.bin .eql (.ld none (.offp 0 (.var 2))) (.const (.int .i64 2))) (.const (.bool true)) (.bin .eql (.ld none (.offp 0 (.var 2))) (.const (.int .i64 3)))) (.const (.bool true)) (.bin .eql (.ld none (.offp 0 (.var 2))) (.const (.int .i64 5)))))
 .ret)),
  [(.var 1)]⟩
theorem okx_291 : FnOk Tryz.prog 2 377 291 xf291 := fnOk_of Tryz.func291 (np := 1) (V := [0, 2, 1]) (ks := []) (by kernel_rfl)

/- (*tipstaff/verify.checker).moved -/
def xf292 : XF := ⟨4, [0, 1, 2, 3, 8, 9, 5, 6, 28, 54, 66, 10, 80],
  (.seq
 (.seq
 (.new (some 6) 124 (.var 1))
 (.seq
 (.new (some 7) 122 (.var 2))
 (.seq
 (.new (some 4) 124 (.const zA9))
 (.set 5 (.const (.bool false))))))
 (.seq
 (.cond (.pick (.pick (.bin .lss (.ld none (.offp 4 (.var 7))) (.const (.int .i64 (-64)))) (.const (.bool true)) (.bin .gtr (.ld none (.offp 5 (.var 7))) (.const (.int .i64 64)))) (.const (.bool true)) (.bin .gtr (.ld none (.offp 4 (.var 7))) (.ld none (.offp 5 (.var 7)))))
 (.seq
 (.seq
 (.store 11 (.var 4) (.ld (some 11) (.var 6)) [])
 (.set 5 (.const (.bool false))))
 .ret)
 .skip)
 (.seq
 (.seq
 (.call (some 8) 357 [(.ld (some 6) (.var 7))] [])
 (.cond (.pick (.un .not (.var 8)) (.pick (.bin .neq (.ld none (.offp 0 (.var 6))) (.const (.int .i64 5))) (.const (.bool true)) (.un .not (.ld none (.offp 2 (.offp 1 (.nn (.var 0))))))) (.const (.bool false)))
 (.seq
 (.seq
 (.store 11 (.var 4) (.ld (some 11) (.var 6)) [])
 (.set 5 (.const (.bool false))))
 .ret)
 .skip))
 (.seq
 (.cond (.var 3)
 (.seq
 .skip
 (.seq
 (.chk [(.bin .sub (.ld none (.offp 9 (.var 6))) (.ld none (.offp 5 (.var 7))))])
 (.seq
 (.set 9 (.bin .sub (.ld none (.offp 10 (.var 6))) (.ld none (.offp 4 (.var 7)))))
 (.seq
 (.store 1 (.offp 9 (.var 6)) (.bin .sub (.ld none (.offp 9 (.var 6))) (.ld none (.offp 5 (.var 7)))) [(.ld none (.offp 4 (.var 7)))])
 (.store 1 (.offp 10 (.var 6)) (.var 9) [])))))
 (.seq
 .skip
 (.seq
 (.chk [(.bin .add (.ld none (.offp 9 (.var 6))) (.ld none (.offp 4 (.var 7))))])
 (.seq
 (.set 10 (.bin .add (.ld none (.offp 10 (.var 6))) (.ld none (.offp 5 (.var 7)))))
 (.seq
 (.store 1 (.offp 9 (.var 6)) (.bin .add (.ld none (.offp 9 (.var 6))) (.ld none (.offp 4 (.var 7)))) [(.ld none (.offp 5 (.var 7)))])
 (.store 1 (.offp 10 (.var 6)) (.var 10) []))))))
 (.seq
 (.set 11 (.const (.int .i64 131072)))
 (.seq
 (.seq
 .skip
 (.seq
 (.chk [(.ld (some 11) (.var 6))])
 (.seq
 (.set 12 (.pick (.bin .geq (.ld none (.offp 9 (.var 6))) (.un .neg (.var 11))) (.bin .leq (.ld none (.offp 10 (.var 6))) (.var 11)) (.const (.bool false))))
 (.seq
 (.store 11 (.var 4) (.ld (some 11) (.var 6)) [(.ld none (.offp 10 (.var 6)))])
 (.set 5 (.var 12))))))
 .ret)))))),
  [(.ld (some 11) (.var 4)), (.var 5)]⟩
theorem okx_292 : FnOk Tryz.prog 2 377 292 xf292 := fnOk_of Tryz.func292 (np := 4) (V := [0, 1, 2, 3, 8, 9, 5, 6, 28, 54, 66, 10, 80]) (ks := []) (by kernel_rfl)

/- tipstaff/absreg.settled -/
def xf294 : XF := ⟨3, [0, 1, 2, 6, 3, 7, 18, 23],
  (.seq
 (.seq
 (.new (some 4) 124 (.var 0))
 (.new (some 3) 124 (.const zA9)))
 (.seq
 (.block 0
 (.seq
 (.set 5 (.pick (.bin .neq (.ld none (.offp 0 (.var 4))) (.const (.int .i64 6))) (.const (.bool true)) (.bin .neq (.ld none (.offp 8 (.var 4))) (.var 1))))
 (.cond (.var 5)
 (.seq
 (.store 11 (.var 3) (.ld (some 11) (.var 4)) [])
 .ret)
 (.seq
 (.set 6 (.var 2))
 (.cond (.var 6)
 (.seq
 (.seq
 (.chk [(.upd 7 1 (.upd 0 1 (.const zA9) (.const (.int .i64 5))) (.ld none (.offp 7 (.var 4))))])
 (.store 11 (.var 3) (.upd 7 1 (.upd 0 1 (.const zA9) (.const (.int .i64 5))) (.ld none (.offp 7 (.var 4)))) []))
 .ret)
 .skip)))))
 (.seq
 (.seq
 (.call (some 7) 287 [(.const (.int .u64 0))] [])
 (.seq
 (.chk [(.upd 1 6 (.upd 0 1 (.const zA9) (.const (.int .i64 1))) (.var 7))])
 (.store 11 (.var 3) (.upd 1 6 (.upd 0 1 (.const zA9) (.const (.int .i64 1))) (.var 7)) [])))
 .ret))),
  [(.ld (some 11) (.var 3))]⟩
theorem okx_294 : FnOk Tryz.prog 2 377 294 xf294 := fnOk_of Tryz.func294 (np := 3) (V := [0, 1, 2, 6, 3, 7, 18, 23]) (ks := []) (by kernel_rfl)

/- tipstaff/scalar.Any -/
def xf295 : XF := ⟨0, [0, 1],
  (.seq
 (.new (some 0) 122 (.const zA5))
 (.seq
 (.seq
 (.call (some 1) 359 [] [])
 (.seq
 (.chk [(.upd 5 1 (.upd 4 1 (.upd 3 1 (.upd 2 1 (.upd 0 2 (.const zA5) (.var 1)) (.const (.int .u64 0))) (.const (.int .u64 18446744073709551615))) (.const (.int .i64 (-9223372036854775808)))) (.const (.int .i64 9223372036854775807)))])
 (.store 6 (.var 0) (.upd 5 1 (.upd 4 1 (.upd 3 1 (.upd 2 1 (.upd 0 2 (.const zA5) (.var 1)) (.const (.int .u64 0))) (.const (.int .u64 18446744073709551615))) (.const (.int .i64 (-9223372036854775808)))) (.const (.int .i64 9223372036854775807))) [])))
 .ret)),
  [(.ld (some 6) (.var 0))]⟩
theorem okx_295 : FnOk Tryz.prog 2 377 295 xf295 := fnOk_of Tryz.func295 (np := 0) (V := [0, 1]) (ks := []) (by kernel_rfl)

/- tipstaff/verify.lined -/
def xf296 : XF := ⟨1, [0, 2, 1],
  (.seq
 (.seq
 (.new (some 2) 24 (.var 0))
 (.set 1 (.const (.bool false))))
 (.seq
 (.set 1 (.pick (.bin .eql (.ld none (.offp 0 (.var 2))) (.const (.int .i64 3))) (.const (.bool true)) (.bin .eql (.ld none (.offp 0 (.var 2))) (.const (.int .i64 4)))))
 .ret)),
  [(.var 1)]⟩
theorem okx_296 : FnOk Tryz.prog 2 377 296 xf296 := fnOk_of Tryz.func296 (np := 1) (V := [0, 2, 1]) (ks := []) (by kernel_rfl)

/- (*tipstaff/verify.checker).frozen -/
def xf297 : XF := ⟨2, [0, 1, 4],
  (.seq
 (.set 2 (.const (.bool false)))
 (.seq
 (.set 2 (.pick (.bin .lss (.var 1) (.len false (.ld none (.offp 1 (.offp 1 (.nn (.var 0))))))) (.ld none (.ixSl 1 (.ld none (.offp 1 (.offp 1 (.nn (.var 0))))) (.var 1))) (.const (.bool false))))
 .ret)),
  [(.var 2)]⟩
theorem okx_297 : FnOk Tryz.prog 2 377 297 xf297 := fnOk_of Tryz.func297 (np := 2) (V := [0, 1, 4]) (ks := []) (by kernel_rfl)

/- tipstaff/absreg.first -/
def xf298 : XF := ⟨2, [0, 1, 4, 5],
  (.seq
 (.seq
 (.set 2 (.const (.int .i64 0)))
 (.set 3 (.const (.bool false))))
 (.seq
 (.cond (.pick (.pick (.pick (.bin .lss (.var 0) (.const (.int .i64 (-64)))) (.const (.bool true)) (.bin .gtr (.var 0) (.const (.int .i64 0)))) (.const (.bool true)) (.bin .lss (.var 1) (.const (.int .i64 0)))) (.const (.bool true)) (.bin .gtr (.var 1) (.un .neg (.var 0))))
 (.seq
 (.seq
 (.set 2 (.const (.int .i64 0)))
 (.set 3 (.const (.bool false))))
 .ret)
 .skip)
 (.seq
 (.seq
 (.set 2 (.bin .add (.var 0) (.const (.int .i64 64))))
 (.set 3 (.const (.bool true))))
 .ret))),
  [(.var 2), (.var 3)]⟩
theorem okx_298 : FnOk Tryz.prog 2 377 298 xf298 := fnOk_of Tryz.func298 (np := 2) (V := [0, 1, 4, 5]) (ks := []) (by kernel_rfl)

/- tipstaff/absreg.sized -/
def xf299 : XF := ⟨1, [0, 2],
  (.seq
 (.set 1 (.const (.bool false)))
 (.seq
 (.set 1 (.pick (.pick (.pick (.bin .eql (.var 0) (.const (.int .i64 1))) (.const (.bool true)) (.bin .eql (.var 0) (.const (.int .i64 2)))) (.const (.bool true)) (.bin .eql (.var 0) (.const (.int .i64 4)))) (.const (.bool true)) (.bin .eql (.var 0) (.const (.int .i64 8)))))
 .ret)),
  [(.var 1)]⟩
theorem okx_299 : FnOk Tryz.prog 2 377 299 xf299 := fnOk_of Tryz.func299 (np := 1) (V := [0, 2]) (ks := []) (by kernel_rfl)

/- tipstaff/absreg.Ready -/
def xf300 : XF := ⟨3, [0, 1, 2, 6, 3, 13, 7, 8, 9],
  (.seq
 (.seq
 (.new (some 4) 129 (.var 0))
 (.set 3 (.const (.bool false))))
 (.seq
 (.seq
 (.call (some 5) 298 [(.var 1), (.var 2)] [])
 (.seq
 (.chk [(.proj 1 (.var 5))])
 (.seq
 (.set 6 (.proj 0 (.var 5)))
 (.set 7 (.proj 1 (.var 5))))))
 (.seq
 (.cond (.un .not (.var 7))
 (.seq
 (.set 3 (.const (.bool false)))
 .ret)
 .skip)
 (.seq
 (.seq
 (.set 8 (.var 6))
 (.block 0
 (.loop [2, 4, 6, 8]
 (.seq
 (.cond (.bin .lss (.var 8) (.bin .add (.var 6) (.var 2)))
 .skip
 (.exit 0))
 (.seq
 (.block 1
 (.cond (.un .not (.ld none (.ixArr 64 1 (.offp 121 (.var 4)) (.var 8))))
 (.seq
 (.set 3 (.const (.bool false)))
 .ret)
 .skip))
 (.set 8 (.bin .add (.var 8) (.const (.int .i64 1)))))))))
 (.seq
 (.set 3 (.const (.bool true)))
 .ret))))),
  [(.var 3)]⟩
theorem okx_300 : FnOk Tryz.prog 2 377 300 xf300 := fnOk_of Tryz.func300 (np := 3) (V := [0, 1, 2, 6, 3, 13, 7, 8, 9]) (ks := [[2, 4, 6, 8]]) (by kernel_rfl)

/- tipstaff/verify.inside -/
def xf301 : XF := ⟨5, [0, 1, 2, 3, 4, 10, 5],
  (.seq
 (.seq
 (.new (some 6) 124 (.var 0))
 (.set 5 (.const (.bool false))))
 (.seq
 (.set 5 (.pick (.bin .geq (.bin .add (.ld none (.offp 9 (.var 6))) (.var 1)) (.var 3)) (.bin .leq (.bin .add (.bin .add (.ld none (.offp 10 (.var 6))) (.var 1)) (.var 2)) (.var 4)) (.const (.bool false))))
 .ret)),
  [(.var 5)]⟩
theorem okx_301 : FnOk Tryz.prog 2 377 301 xf301 := fnOk_of Tryz.func301 (np := 5) (V := [0, 1, 2, 3, 4, 10, 5]) (ks := []) (by kernel_rfl)

/- (*tipstaff/vm.machine).bytes -/
def xf302 : XF := ⟨3, [0, 1, 2, 6, 7, 22, 8, 9],
  (.seq
 (.seq
 (.set 3 (.const (.slice none 0 0)))
 (.set 4 (.const (.bool false))))
 (.seq
 (.seq
 .skip
 (.seq
 (.call (some 5) 360 [(.ld none (.offp 37 (.nn (.var 0)))), (.ld (some 4) (.ixArr 11 4 (.offp 38 (.nn (.var 0))) (.var 1))), (.var 2)] [])
 (.seq
 (.chk [(.proj 1 (.var 5))])
 (.seq
 (.set 6 (.proj 0 (.var 5)))
 (.set 7 (.proj 1 (.var 5)))))))
 (.seq
 (.seq
 (.chk [(.bin .eql (.var 7) (.const (.int .i64 0)))])
 (.seq
 (.set 3 (.var 6))
 (.set 4 (.bin .eql (.var 7) (.const (.int .i64 0))))))
 .ret))),
  [(.var 3), (.var 4)]⟩
theorem okx_302 : FnOk Tryz.prog 2 377 302 xf302 := fnOk_of Tryz.func302 (np := 3) (V := [0, 1, 2, 6, 7, 22, 8, 9]) (ks := []) (by kernel_rfl)

/- tipstaff/vm.lined -/
def xf303 : XF := ⟨1, [0, 2, 5, 3],
  (.seq
 (.set 1 (.const (.bool false)))
 (.seq
 (.seq
 (.call (some 2) 112 [(.var 0)] [])
 (.set 3 (.part none 0 (.var 2))))
 (.seq
 (.set 1 (.pick (.bin .eql (.var 3) (.const (.int .i64 3))) (.const (.bool true)) (.bin .eql (.var 3) (.const (.int .i64 4)))))
 .ret))),
  [(.var 1)]⟩
theorem okx_303 : FnOk Tryz.prog 2 377 303 xf303 := fnOk_of Tryz.func303 (np := 1) (V := [0, 2, 5, 3]) (ks := []) (by kernel_rfl)

/- (*tipstaff/bmap.Map).Cell -/
def xf304 : XF := ⟨2, [0, 1, 4, 5, 11, 6, 7],
  (.seq
 (.seq
 (.set 2 (.const (.pointer none)))
 (.set 3 (.const (.int .i64 0))))
 (.seq
 (.seq
 (.call (some 4) 51 [(.var 0), (.var 1)] [])
 (.seq
 (.chk [(.proj 1 (.var 4))])
 (.seq
 (.set 5 (.proj 0 (.var 4)))
 (.set 6 (.proj 1 (.var 4))))))
 (.seq
 (.cond (.bin .neq (.var 6) (.const (.int .i64 0)))
 (.seq
 (.seq
 (.chk [(.var 6)])
 (.seq
 (.set 2 (.const (.pointer none)))
 (.set 3 (.var 6))))
 .ret)
 .skip)
 (.seq
 (.seq
 (.set 2 (.ld none (.offp 1 (.nn (.var 5)))))
 (.set 3 (.const (.int .i64 0))))
 .ret)))),
  [(.var 2), (.var 3)]⟩
theorem okx_304 : FnOk Tryz.prog 2 377 304 xf304 := fnOk_of Tryz.func304 (np := 2) (V := [0, 1, 4, 5, 11, 6, 7]) (ks := []) (by kernel_rfl)

/- tipstaff/vm.minus -/
def xf305 : XF := ⟨1, [0, 2, 6],
  (.seq
 (.new (some 1) 138 (.const (.agg #[(.int .i64 0), (.int .u64 0), (.int .i64 0), (.pointer none)])))
 (.seq
 (.seq
 (.call (some 2) 163 [(.un .neg (.conv .u64 (.var 0)))] [])
 (.store 4 (.var 1) (.var 2) []))
 .ret)),
  [(.ld (some 4) (.var 1))]⟩
theorem okx_305 : FnOk Tryz.prog 2 377 305 xf305 := fnOk_of Tryz.func305 (np := 1) (V := [0, 2, 6]) (ks := []) (by kernel_rfl)

/- (*tipstaff/bmap.Map).Push -/
def xf306 : XF := ⟨3, [0, 1, 2, 6, 9, 7, 15, 13, 31, 49, 51, 53, 54, 47, 55],
  (.seq
 (.set 3 (.const (.int .i64 0)))
 (.seq
 (.seq
 (.seq
 (.call (some 4) 200 [(.var 0)] [])
 (.set 5 (.var 4)))
 (.cond (.bin .neq (.var 5) (.const (.int .i64 0)))
 (.seq
 (.set 3 (.var 5))
 .ret)
 .skip))
 (.seq
 (.block 0
 (.seq
 (.seq
 (.call (some 6) 172 [(.var 0)] [])
 (.set 7 (.pick (.pick (.un .not (.var 6)) (.const (.bool true)) (.bin .neq (.len false (.var 1)) (.ld none (.offp 2 (.offp 0 (.nn (.var 0))))))) (.const (.bool true)) (.bin .neq (.var 2) (.const (.int .u64 0))))))
 (.cond (.var 7)
 (.seq
 (.set 3 (.const (.int .i64 22)))
 .ret)
 (.seq
 (.seq
 .skip
 (.set 8 (.bin .eql (.len false (.ld none (.offp 4 (.nn (.var 0))))) (.ld none (.offp 3 (.offp 0 (.nn (.var 0))))))))
 (.cond (.var 8)
 (.seq
 (.set 3 (.const (.int .i64 7)))
 .ret)
 .skip)))))
 (.seq
 (.seq
 .skip
 (.seq
 (.set 13 (.ld none (.offp 4 (.nn (.var 0)))))
 (.seq
 (.call (some 9) 52 [(.var 1)] [(.ld none (.offp 4 (.nn (.var 0))))])
 (.seq
 (.chk [(.upd 0 1 (.const (.agg #[(.slice none 0 0)])) (.var 9))])
 (.seq
 (.new (some 10) 101 (.upd 0 1 (.const (.agg #[(.slice none 0 0)])) (.var 9)))
 (.seq
 (.chk [(.upd 1 1 (.const (.agg #[(.string ⟨#[]⟩), (.pointer none), (.int .i64 0)])) (.var 10))])
 (.seq
 (.new (some 11) 103 (.upd 1 1 (.const (.agg #[(.string ⟨#[]⟩), (.pointer none), (.int .i64 0)])) (.var 10)))
 (.seq
 (.row (some 12) 97 1 (.upd 0 1 (.const (.agg #[(.pointer none)])) (.var 11)))
 (.seq
 (.app (some 14) 97 1 (.var 13) (.var 12) [])
 (.store 1 (.offp 4 (.nn (.var 0))) (.var 14) []))))))))))
 (.seq
 (.set 3 (.const (.int .i64 0)))
 .ret))))),
  [(.var 3)]⟩
theorem okx_306 : FnOk Tryz.prog 2 377 306 xf306 := fnOk_of Tryz.func306 (np := 3) (V := [0, 1, 2, 6, 9, 7, 15, 13, 31, 49, 51, 53, 54, 47, 55]) (ks := []) (by kernel_rfl)

/- (*tipstaff/region.Memory).Fill -/
def xf307 : XF := ⟨3, [0, 1, 2, 6, 4, 15, 7, 8, 9, 29],
  (.seq
 (.seq
 (.new (some 4) 138 (.var 1))
 (.set 3 (.const (.int .i64 0))))
 (.seq
 (.seq
 (.call (some 5) 255 [(.var 0), (.ld (some 4) (.var 4)), (.const (.int .i64 0)), (.len false (.var 2))] [])
 (.seq
 (.chk [(.proj 2 (.var 5)), (.proj 1 (.var 5))])
 (.seq
 (.set 6 (.proj 0 (.var 5)))
 (.seq
 (.set 7 (.proj 1 (.var 5)))
 (.set 8 (.proj 2 (.var 5)))))))
 (.seq
 (.seq
 (.seq
 (.chk [(.pick (.pick (.un .not (.var 8)) (.const (.bool true)) (.bin .gtr (.len false (.var 2)) (.const (.int .i64 64)))) (.const (.bool false)) (.ld (some 4) (.var 4))), (.pick (.pick (.un .not (.var 8)) (.const (.bool true)) (.bin .gtr (.len false (.var 2)) (.const (.int .i64 64)))) (.const (.bool false)) (.var 0))])
 (.cond (.pick (.pick (.un .not (.var 8)) (.const (.bool true)) (.bin .gtr (.len false (.var 2)) (.const (.int .i64 64)))) (.const (.bool false)) (.const (.bool true)))
 (.call (some 9) 259 [(.var 0), (.ld (some 4) (.var 4))] [])
 (.clr [9])))
 (.cond (.pick (.pick (.un .not (.var 8)) (.const (.bool true)) (.bin .gtr (.len false (.var 2)) (.const (.int .i64 64)))) (.const (.bool true)) (.un .not (.var 9)))
 (.seq
 (.set 3 (.const (.int .i64 14)))
 .ret)
 .skip))
 (.seq
 (.copy none 1 (.var 6) (.var 2) [])
 (.seq
 (.cond (.bin .eql (.ld none (.offp 0 (.var 4))) (.const (.int .i64 3)))
 (.call none 261 [(.var 0), (.var 7), (.len false (.var 2))] [])
 .skip)
 (.seq
 (.set 3 (.const (.int .i64 0)))
 .ret)))))),
  [(.var 3)]⟩
theorem okx_307 : FnOk Tryz.prog 2 377 307 xf307 := fnOk_of Tryz.func307 (np := 3) (V := [0, 1, 2, 6, 4, 15, 7, 8, 9, 29]) (ks := []) (by kernel_rfl)

/- (*tipstaff/bmap.Map).Peek -/
def xf308 : XF := ⟨1, [0, 2, 3, 8, 4, 5, 27],
  (.seq
 (.seq
 (.set 1 (.const (.slice none 0 0)))
 (.set 2 (.const (.int .i64 0))))
 (.seq
 (.seq
 (.call (some 3) 361 [(.var 0)] [])
 (.seq
 (.chk [(.proj 1 (.var 3))])
 (.seq
 (.set 4 (.proj 0 (.var 3)))
 (.set 5 (.proj 1 (.var 3))))))
 (.seq
 (.cond (.bin .neq (.var 5) (.const (.int .i64 0)))
 (.seq
 (.seq
 (.chk [(.var 5)])
 (.seq
 (.set 1 (.const (.slice none 0 0)))
 (.set 2 (.var 5))))
 .ret)
 .skip)
 (.seq
 (.seq
 (.call (some 6) 52 [(.ld none (.offp 0 (.nn (.ld none (.offp 1 (.nn (.ld none (.ixSl 1 (.ld none (.offp 4 (.nn (.var 0)))) (.var 4)))))))))] [])
 (.seq
 (.set 1 (.var 6))
 (.set 2 (.const (.int .i64 0)))))
 .ret)))),
  [(.var 1), (.var 2)]⟩
theorem okx_308 : FnOk Tryz.prog 2 377 308 xf308 := fnOk_of Tryz.func308 (np := 1) (V := [0, 2, 3, 8, 4, 5, 27]) (ks := []) (by kernel_rfl)

/- (*tipstaff/bmap.Map).Pop -/
def xf309 : XF := ⟨1, [0, 2, 3, 10, 4, 16, 5, 6, 24, 7, 8, 35],
  (.seq
 (.seq
 (.set 1 (.const (.slice none 0 0)))
 (.set 2 (.const (.int .i64 0))))
 (.seq
 (.seq
 (.seq
 (.call (some 3) 200 [(.var 0)] [])
 (.set 4 (.var 3)))
 (.cond (.bin .neq (.var 4) (.const (.int .i64 0)))
 (.seq
 (.seq
 (.chk [(.var 4)])
 (.seq
 (.set 1 (.const (.slice none 0 0)))
 (.set 2 (.var 4))))
 .ret)
 .skip))
 (.seq
 (.seq
 (.call (some 5) 308 [(.var 0)] [])
 (.seq
 (.chk [(.proj 1 (.var 5))])
 (.seq
 (.set 6 (.proj 0 (.var 5)))
 (.set 7 (.proj 1 (.var 5))))))
 (.seq
 (.cond (.bin .neq (.var 7) (.const (.int .i64 0)))
 (.seq
 (.seq
 (.chk [(.var 7)])
 (.seq
 (.set 1 (.const (.slice none 0 0)))
 (.set 2 (.var 7))))
 .ret)
 .skip)
 (.seq
 (.seq
 (.call (some 8) 361 [(.var 0)] [])
 (.seq
 (.chk [(.proj 1 (.var 8))])
 (.seq
 (.set 9 (.proj 0 (.var 8)))
 (.set 10 (.proj 1 (.var 8))))))
 (.seq
 (.seq
 (.call (some 11) 362 [(.ld none (.offp 4 (.nn (.var 0)))), (.var 9), (.bin .add (.var 9) (.const (.int .i64 1)))] [])
 (.store 1 (.offp 4 (.nn (.var 0))) (.var 11) []))
 (.seq
 (.seq
 (.set 1 (.var 6))
 (.set 2 (.const (.int .i64 0))))
 .ret))))))),
  [(.var 1), (.var 2)]⟩
theorem okx_309 : FnOk Tryz.prog 2 377 309 xf309 := fnOk_of Tryz.func309 (np := 1) (V := [0, 2, 3, 10, 4, 16, 5, 6, 24, 7, 8, 35]) (ks := []) (by kernel_rfl)

/- (*tipstaff/region.Memory).bytes -/
def xf310 : XF := ⟨2, [0, 1, 4, 5, 3, 7, 8, 14, 20],
  (.seq
 (.seq
 (.new (some 4) 138 (.var 1))
 (.seq
 (.set 2 (.const (.slice none 0 0)))
 (.set 3 (.const (.int .i64 0)))))
 (.seq
 (.seq
 (.set 5 (.ld none (.offp 0 (.var 4))))
 (.block 0
 (.seq
 (.set 6 (.bin .eql (.var 5) (.const (.int .i64 2))))
 (.cond (.var 6)
 (.seq
 (.seq
 (.set 2 (.slArr 32 1 (.offp 0 (.nn (.var 0))) (.const (.int .i64 0)) (.const (.int .i64 32))))
 (.set 3 (.const (.int .i64 0))))
 .ret)
 (.seq
 (.set 7 (.bin .eql (.var 5) (.const (.int .i64 3))))
 (.cond (.var 7)
 (.seq
 (.seq
 (.set 2 (.slArr 64 1 (.offp 32 (.nn (.var 0))) (.const (.int .i64 0)) (.const (.int .i64 64))))
 (.set 3 (.const (.int .i64 64))))
 .ret)
 (.seq
 (.set 8 (.bin .eql (.var 5) (.const (.int .i64 5))))
 (.cond (.var 8)
 (.cond (.isnil 0 true (.ld none (.offp 3 (.var 4))))
 (.seq
 (.seq
 (.set 2 (.ld none (.offp 0 (.nn (.ld none (.offp 3 (.var 4)))))))
 (.set 3 (.const (.int .i64 0))))
 .ret)
 .skip)
 .skip))))))))
 (.seq
 (.seq
 (.set 2 (.const (.slice none 0 0)))
 (.set 3 (.const (.int .i64 0))))
 .ret))),
  [(.var 2), (.var 3)]⟩
theorem okx_310 : FnOk Tryz.prog 2 377 310 xf310 := fnOk_of Tryz.func310 (np := 2) (V := [0, 1, 4, 5, 3, 7, 8, 14, 20]) (ks := []) (by kernel_rfl)

/- tipstaff/region.plus -/
def xf311 : XF := ⟨2, [0, 1, 4, 5, 6],
  (.seq
 (.seq
 (.set 2 (.const (.int .i64 0)))
 (.set 3 (.const (.bool false))))
 (.seq
 (.set 4 (.bin .add (.var 0) (.var 1)))
 (.seq
 (.seq
 (.chk [(.pick (.eqx true .bool (.bin .lss (.var 0) (.const (.int .i64 0))) (.bin .lss (.var 1) (.const (.int .i64 0)))) (.const (.bool true)) (.eqx false .bool (.bin .lss (.var 4) (.const (.int .i64 0))) (.bin .lss (.var 0) (.const (.int .i64 0)))))])
 (.seq
 (.set 2 (.var 4))
 (.set 3 (.pick (.eqx true .bool (.bin .lss (.var 0) (.const (.int .i64 0))) (.bin .lss (.var 1) (.const (.int .i64 0)))) (.const (.bool true)) (.eqx false .bool (.bin .lss (.var 4) (.const (.int .i64 0))) (.bin .lss (.var 0) (.const (.int .i64 0))))))))
 .ret))),
  [(.var 2), (.var 3)]⟩
theorem okx_311 : FnOk Tryz.prog 2 377 311 xf311 := fnOk_of Tryz.func311 (np := 2) (V := [0, 1, 4, 5, 6]) (ks := []) (by kernel_rfl)

/- math/bits.Len64 -/
def xf324 : XF := ⟨1, [0, 2],
  (.seq
 (.set 1 (.const (.int .i64 0)))
 (.seq
 (.cond (.bin .geq (.var 0) (.const (.int .u64 4294967296)))
 (.seq
 (.set 0 (.bin .shr (.var 0) (.const (.int .u64 32))))
 (.set 1 (.const (.int .i64 32))))
 .skip)
 (.seq
 (.cond (.bin .geq (.var 0) (.const (.int .u64 65536)))
 (.seq
 (.set 0 (.bin .shr (.var 0) (.const (.int .u64 16))))
 (.set 1 (.bin .add (.var 1) (.const (.int .i64 16)))))
 .skip)
 (.seq
 (.cond (.bin .geq (.var 0) (.const (.int .u64 256)))
 (.seq
 (.set 0 (.bin .shr (.var 0) (.const (.int .u64 8))))
 (.set 1 (.bin .add (.var 1) (.const (.int .i64 8)))))
 .skip)
 (.seq
 (.seq
 (.chk [(.bin .add (.var 1) (.conv .i64 (.idxStr (.const (.string ⟨#[0, 1, 2, 2, 3, 3, 3, 3, 4, 4, 4, 4, 4, 4, 4, 4, 5, 5, 5, 5, 5, 5, 5, 5, 5, 5, 5, 5, 5, 5, 5, 5, 6, 6, 6, 6, 6, 6, 6, 6, 6, 6, 6, 6, 6, 6, 6, 6, 6, 6, 6, 6, 6, 6, 6, 6, 6, 6, 6, 6, 6, 6, 6, 6, 7, 7, 7, 7, 7, 7, 7, 7, 7, 7, 7, 7, 7, 7, 7, 7, 7, 7, 7, 7, 7, 7, 7, 7, 7, 7, 7, 7, 7, 7, 7, 7, 7, 7, 7, 7, 7, 7, 7, 7, 7, 7, 7, 7, 7, 7, 7, 7, 7, 7, 7, 7, 7, 7, 7, 7, 7, 7, 7, 7, 7, 7, 7, 7, 8, 8, 8, 8, 8, 8, 8, 8, 8, 8, 8, 8, 8, 8, 8, 8, 8, 8, 8, 8, 8, 8, 8, 8, 8, 8, 8, 8, 8, 8, 8, 8, 8, 8, 8, 8, 8, 8, 8, 8, 8, 8, 8, 8, 8, 8, 8, 8, 8, 8, 8, 8, 8, 8, 8, 8, 8, 8, 8, 8, 8, 8, 8, 8, 8, 8, 8, 8, 8, 8, 8, 8, 8, 8, 8, 8, 8, 8, 8, 8, 8, 8, 8, 8, 8, 8, 8, 8, 8, 8, 8, 8, 8, 8, 8, 8, 8, 8, 8, 8, 8, 8, 8, 8, 8, 8, 8, 8, 8, 8, 8, 8, 8, 8, 8, 8, 8, 8, 8, 8, 8, 8, 8, 8, 8, 8, 8, 8]⟩)) (.conv .u8 (.var 0))))), (.conv .i64 (.idxStr (.const (.string ⟨#[0, 1, 2, 2, 3, 3, 3, 3, 4, 4, 4, 4, 4, 4, 4, 4, 5, 5, 5, 5, 5, 5, 5, 5, 5, 5, 5, 5, 5, 5, 5, 5, 6, 6, 6, 6, 6, 6, 6, 6, 6, 6, 6, 6, 6, 6, 6, 6, 6, 6, 6, 6, 6, 6, 6, 6, 6, 6, 6, 6, 6, 6, 6, 6, 7, 7, 7, 7, 7, 7, 7, 7, 7, 7, 7, 7, 7, 7, 7, 7, 7, 7, 7, 7, 7, 7, 7, 7, 7, 7, 7, 7, 7, 7, 7, 7, 7, 7, 7, 7, 7, 7, 7, 7, 7, 7, 7, 7, 7, 7, 7, 7, 7, 7, 7, 7, 7, 7, 7, 7, 7, 7, 7, 7, 7, 7, 7, 7, 8, 8, 8, 8, 8, 8, 8, 8, 8, 8, 8, 8, 8, 8, 8, 8, 8, 8, 8, 8, 8, 8, 8, 8, 8, 8, 8, 8, 8, 8, 8, 8, 8, 8, 8, 8, 8, 8, 8, 8, 8, 8, 8, 8, 8, 8, 8, 8, 8, 8, 8, 8, 8, 8, 8, 8, 8, 8, 8, 8, 8, 8, 8, 8, 8, 8, 8, 8, 8, 8, 8, 8, 8, 8, 8, 8, 8, 8, 8, 8, 8, 8, 8, 8, 8, 8, 8, 8, 8, 8, 8, 8, 8, 8, 8, 8, 8, 8, 8, 8, 8, 8, 8, 8, 8, 8, 8, 8, 8, 8, 8, 8, 8, 8, 8, 8, 8, 8, 8, 8, 8, 8, 8, 8, 8, 8, 8, 8]⟩)) (.conv .u8 (.var 0)))), (.idxStr (.const (.string ⟨#[0, 1, 2, 2, 3, 3, 3, 3, 4, 4, 4, 4, 4, 4, 4, 4, 5, 5, 5, 5, 5, 5, 5, 5, 5, 5, 5, 5, 5, 5, 5, 5, 6, 6, 6, 6, 6, 6, 6, 6, 6, 6, 6, 6, 6, 6, 6, 6, 6, 6, 6, 6, 6, 6, 6, 6, 6, 6, 6, 6, 6, 6, 6, 6, 7, 7, 7, 7, 7, 7, 7, 7, 7, 7, 7, 7, 7, 7, 7, 7, 7, 7, 7, 7, 7, 7, 7, 7, 7, 7, 7, 7, 7, 7, 7, 7, 7, 7, 7, 7, 7, 7, 7, 7, 7, 7, 7, 7, 7, 7, 7, 7, 7, 7, 7, 7, 7, 7, 7, 7, 7, 7, 7, 7, 7, 7, 7, 7, 8, 8, 8, 8, 8, 8, 8, 8, 8, 8, 8, 8, 8, 8, 8, 8, 8, 8, 8, 8, 8, 8, 8, 8, 8, 8, 8, 8, 8, 8, 8, 8, 8, 8, 8, 8, 8, 8, 8, 8, 8, 8, 8, 8, 8, 8, 8, 8, 8, 8, 8, 8, 8, 8, 8, 8, 8, 8, 8, 8, 8, 8, 8, 8, 8, 8, 8, 8, 8, 8, 8, 8, 8, 8, 8, 8, 8, 8, 8, 8, 8, 8, 8, 8, 8, 8, 8, 8, 8, 8, 8, 8, 8, 8, 8, 8, 8, 8, 8, 8, 8, 8, 8, 8, 8, 8, 8, 8, 8, 8, 8, 8, 8, 8, 8, 8, 8, 8, 8, 8, 8, 8, 8, 8, 8, 8, 8, 8]⟩)) (.conv .u8 (.var 0)))])
 (.set 1 (.bin .add (.var 1) (.conv .i64 (.idxStr (.const (.string ⟨#[0, 1, 2, 2, 3, 3, 3, 3, 4, 4, 4, 4, 4, 4, 4, 4, 5, 5, 5, 5, 5, 5, 5, 5, 5, 5, 5, 5, 5, 5, 5, 5, 6, 6, 6, 6, 6, 6, 6, 6, 6, 6, 6, 6, 6, 6, 6, 6, 6, 6, 6, 6, 6, 6, 6, 6, 6, 6, 6, 6, 6, 6, 6, 6, 7, 7, 7, 7, 7, 7, 7, 7, 7, 7, 7, 7, 7, 7, 7, 7, 7, 7, 7, 7, 7, 7, 7, 7, 7, 7, 7, 7, 7, 7, 7, 7, 7, 7, 7, 7, 7, 7, 7, 7, 7, 7, 7, 7, 7, 7, 7, 7, 7, 7, 7, 7, 7, 7, 7, 7, 7, 7, 7, 7, 7, 7, 7, 7, 8, 8, 8, 8, 8, 8, 8, 8, 8, 8, 8, 8, 8, 8, 8, 8, 8, 8, 8, 8, 8, 8, 8, 8, 8, 8, 8, 8, 8, 8, 8, 8, 8, 8, 8, 8, 8, 8, 8, 8, 8, 8, 8, 8, 8, 8, 8, 8, 8, 8, 8, 8, 8, 8, 8, 8, 8, 8, 8, 8, 8, 8, 8, 8, 8, 8, 8, 8, 8, 8, 8, 8, 8, 8, 8, 8, 8, 8, 8, 8, 8, 8, 8, 8, 8, 8, 8, 8, 8, 8, 8, 8, 8, 8, 8, 8, 8, 8, 8, 8, 8, 8, 8, 8, 8, 8, 8, 8, 8, 8, 8, 8, 8, 8, 8, 8, 8, 8, 8, 8, 8, 8, 8, 8, 8, 8, 8, 8]⟩)) (.conv .u8 (.var 0)))))))
 .ret))))),
  [(.var 1)]⟩
theorem okx_324 : FnOk Tryz.prog 2 377 324 xf324 := fnOk_of Tryz.func324 (np := 1) (V := [0, 2]) (ks := []) (by kernel_rfl)

/- cmp.isNaN[int] -/
def xf328 : XF := ⟨1, [0, 2],
  (.seq
 (.set 1 (.const (.bool false)))
 (.seq
 (.set 1 (.bin .neq (.var 0) (.var 0)))
 .ret)),
  [(.var 1)]⟩
theorem okx_328 : FnOk Tryz.prog 2 377 328 xf328 := fnOk_of Tryz.func328 (np := 1) (V := [0, 2]) (ks := []) (by kernel_rfl)

/- slices.insertionSortOrdered[int] -/
def xf331 : XF := ⟨3, [0, 1, 2, 6, 7, 29, 46],
  (.seq
 (.set 3 (.bin .add (.var 1) (.const (.int .i64 1))))
 (.block 0
 (.loop [0, 1, 2, 3]
 (.seq
 (.cond (.bin .lss (.var 3) (.var 2))
 .skip
 (.exit 0))
 (.seq
 (.block 1
 (.seq
 (.set 4 (.var 3))
 (.block 2
 (.loop [0, 1, 2, 3, 4]
 (.seq
 (.seq
 (.seq
 .skip
 (.seq
 (.chk [(.pick (.bin .gtr (.var 4) (.var 1)) (.ld none (.ixSl 1 (.var 0) (.bin .sub (.var 4) (.const (.int .i64 1))))) (.const (.bool false))), (.pick (.bin .gtr (.var 4) (.var 1)) (.ld none (.ixSl 1 (.var 0) (.var 4))) (.const (.bool false)))])
 (.cond (.pick (.bin .gtr (.var 4) (.var 1)) (.const (.bool true)) (.const (.bool false)))
 (.call (some 5) 337 [(.ld none (.ixSl 1 (.var 0) (.var 4))), (.ld none (.ixSl 1 (.var 0) (.bin .sub (.var 4) (.const (.int .i64 1)))))] [])
 (.clr [5]))))
 (.cond (.pick (.bin .gtr (.var 4) (.var 1)) (.var 5) (.const (.bool false)))
 .skip
 (.exit 2)))
 (.seq
 (.block 3
 (.seq
 .skip
 (.seq
 (.chk [(.ld none (.ixSl 1 (.var 0) (.bin .sub (.var 4) (.const (.int .i64 1)))))])
 (.seq
 (.set 6 (.ld none (.ixSl 1 (.var 0) (.var 4))))
 (.seq
 (.store 1 (.ixSl 1 (.var 0) (.var 4)) (.ld none (.ixSl 1 (.var 0) (.bin .sub (.var 4) (.const (.int .i64 1))))) [])
 (.store 1 (.ixSl 1 (.var 0) (.bin .sub (.var 4) (.const (.int .i64 1)))) (.var 6) []))))))
 (.set 4 (.bin .sub (.var 4) (.const (.int .i64 1))))))))))
 (.set 3 (.bin .add (.var 3) (.const (.int .i64 1))))))))),
  []⟩
theorem okx_331 : FnOk Tryz.prog 2 377 331 xf331 := fnOk_of Tryz.func331 (np := 3) (V := [0, 1, 2, 6, 7, 29, 46]) (ks := [[0, 1, 2, 3], [0, 1, 2, 3, 4]]) (by kernel_rfl)

/- cmp.Less[int] -/
def xf337 : XF := ⟨2, [0, 1, 4, 6, 9],
  (.seq
 (.set 2 (.const (.bool false)))
 (.seq
 (.seq
 (.call (some 3) 328 [(.var 0)] [])
 (.seq
 (.chk [(.pick (.var 3) (.var 1) (.const (.bool false)))])
 (.seq
 (.cond (.pick (.var 3) (.const (.bool true)) (.const (.bool false)))
 (.call (some 4) 328 [(.var 1)] [])
 (.clr [4]))
 (.set 2 (.pick (.pick (.var 3) (.un .not (.var 4)) (.const (.bool false))) (.const (.bool true)) (.bin .lss (.var 0) (.var 1)))))))
 .ret)),
  [(.var 2)]⟩
theorem okx_337 : FnOk Tryz.prog 2 377 337 xf337 := fnOk_of Tryz.func337 (np := 2) (V := [0, 1, 4, 6, 9]) (ks := []) (by kernel_rfl)

/- slices.DeleteFunc[[]int,int] -/
def xf341 : XF := ⟨2, [0, 1, 4, 10, 5, 6, 7, 28],
  (.seq
 (.set 2 (.const (.slice none 0 0)))
 (.seq
 (.seq
 (.call (some 3) 373 [(.var 0), (.var 1)] [])
 (.set 4 (.var 3)))
 (.seq
 (.cond (.bin .eql (.var 4) (.const (.int .i64 (-1))))
 (.seq
 (.set 2 (.var 0))
 .ret)
 .skip)
 (.seq
 (.seq
 (.set 5 (.bin .add (.var 4) (.const (.int .i64 1))))
 (.block 0
 (.loop [0, 1, 4, 5]
 (.seq
 (.cond (.bin .lss (.var 5) (.len false (.var 0)))
 .skip
 (.exit 0))
 (.seq
 (.block 1
 (.seq
 (.set 6 (.ld none (.ixSl 1 (.var 0) (.var 5))))
 (.seq
 (.dyn (some 7) (.var 1) [(.var 6)] [])
 (.cond (.un .not (.var 7))
 (.seq
 (.store 1 (.ixSl 1 (.var 0) (.var 4)) (.var 6) [])
 (.set 4 (.bin .add (.var 4) (.const (.int .i64 1)))))
 .skip))))
 (.set 5 (.bin .add (.var 5) (.const (.int .i64 1)))))))))
 (.seq
 (.clear [(.int .i64 0)] (.slSl 1 (.var 0) (.var 4) (.len false (.var 0))) [])
 (.seq
 (.set 2 (.slSl 1 (.var 0) (.const (.int .i64 0)) (.var 4)))
 .ret)))))),
  [(.var 2)]⟩
theorem okx_341 : FnOk Tryz.prog 2 377 341 xf341 := fnOk_of Tryz.func341 (np := 2) (V := [0, 1, 4, 10, 5, 6, 7, 28]) (ks := [[0, 1, 4, 5]]) (by kernel_rfl)

/- tipstaff/cfg.behind -/
def xf342 : XF := ⟨2, [0, 1, 4, 3, 7, 8, 12, 16, 17, 18, 24, 25, 5, 29, 30, 34, 37],
  (.seq
 (.seq
 (.new (some 3) 32 (.var 1))
 (.set 2 (.const (.slice none 0 0))))
 (.seq
 (.seq
 (.call (some 4) 147 [(.ld (some 5) (.var 3))] [])
 (.block 0
 (.seq
 (.seq
 (.set 5 (.bin .eql (.var 4) (.const (.int .i64 0))))
 (.cond (.var 5)
 .skip
 (.seq
 (.set 5 (.bin .eql (.var 4) (.const (.int .i64 5))))
 (.cond (.var 5)
 .skip
 (.set 5 (.bin .eql (.var 4) (.const (.int .i64 10))))))))
 (.cond (.var 5)
 (.seq
 (.set 2 (.const (.slice none 0 0)))
 .ret)
 (.seq
 (.set 6 (.bin .eql (.var 4) (.const (.int .i64 3))))
 (.cond (.var 6)
 (.seq
 (.seq
 (.call (some 7) 93 [(.var 0), (.ld (some 5) (.var 3))] [])
 (.seq
 (.row (some 8) 3 1 (.upd 0 1 (.const (.agg #[(.int .i64 0)])) (.var 7)))
 (.set 2 (.var 8))))
 .ret)
 (.seq
 (.set 9 (.bin .eql (.var 4) (.const (.int .i64 2))))
 (.cond (.var 9)
 (.seq
 (.seq
 (.chk [(.bin .add (.var 0) (.const (.int .i64 1)))])
 (.seq
 (.call (some 10) 93 [(.var 0), (.ld (some 5) (.var 3))] [])
 (.seq
 (.row (some 11) 3 2 (.upd 1 1 (.upd 0 1 (.const (.agg #[(.int .i64 0), (.int .i64 0)])) (.bin .add (.var 0) (.const (.int .i64 1)))) (.var 10)))
 (.set 12 (.var 11)))))
 (.seq
 (.call none 214 [(.var 12)] [])
 (.seq
 (.seq
 (.call (some 13) 374 [(.var 12)] [])
 (.set 2 (.var 13)))
 .ret)))
 (.seq
 (.set 14 (.bin .eql (.var 4) (.const (.int .i64 9))))
 (.cond (.var 14)
 (.seq
 (.seq
 (.row (some 15) 3 1 (.upd 0 1 (.const (.agg #[(.int .i64 0)])) (.bin .add (.var 0) (.const (.int .i64 2)))))
 (.set 2 (.var 15)))
 .ret)
 .skip))))))))))
 (.seq
 (.seq
 (.row (some 16) 3 1 (.upd 0 1 (.const (.agg #[(.int .i64 0)])) (.bin .add (.var 0) (.const (.int .i64 1)))))
 (.set 2 (.var 16)))
 .ret))),
  [(.var 2)]⟩
theorem okx_342 : FnOk Tryz.prog 2 377 342 xf342 := fnOk_of Tryz.func342 (np := 2) (V := [0, 1, 4, 3, 7, 8, 12, 16, 17, 18, 24, 25, 5, 29, 30, 34, 37]) (ks := []) (by kernel_rfl)

/- tipstaff/cfg.Next$1 -/
def xf343 : XF := ⟨2, [0, 1, 3],
  (.seq
 (.set 2 (.const (.bool false)))
 (.seq
 (.set 2 (.pick (.bin .lss (.var 0) (.const (.int .i64 0))) (.const (.bool true)) (.bin .geq (.var 0) (.len false (.ld none (.var 1))))))
 .ret)),
  [(.var 2)]⟩
theorem okx_343 : FnOk Tryz.prog 2 377 343 xf343 := fnOk_of Tryz.func343 (np := 2) (V := [0, 1, 3]) (ks := []) (by kernel_rfl)

/- tipstaff/tnum.Const -/
def xf345 : XF := ⟨1, [0, 2],
  (.seq
 (.new (some 1) 120 (.const (.agg #[(.int .u64 0), (.int .u64 0)])))
 (.seq
 (.seq
 (.chk [(.upd 0 1 (.const (.agg #[(.int .u64 0), (.int .u64 0)])) (.var 0))])
 (.store 2 (.var 1) (.upd 0 1 (.const (.agg #[(.int .u64 0), (.int .u64 0)])) (.var 0)) []))
 .ret)),
  [(.ld (some 2) (.var 1))]⟩
theorem okx_345 : FnOk Tryz.prog 2 377 345 xf345 := fnOk_of Tryz.func345 (np := 1) (V := [0, 2]) (ks := []) (by kernel_rfl)

/- tipstaff/scalar.Has -/
def xf346 : XF := ⟨2, [0, 1, 4, 2, 8],
  (.seq
 (.seq
 (.new (some 3) 122 (.var 0))
 (.set 2 (.const (.bool false))))
 (.seq
 (.seq
 (.call (some 4) 375 [(.ld (some 2) (.offp 0 (.var 3))), (.var 1)] [])
 (.set 2 (.pick (.pick (.pick (.pick (.var 4) (.bin .leq (.ld none (.offp 2 (.var 3))) (.var 1)) (.const (.bool false))) (.bin .leq (.var 1) (.ld none (.offp 3 (.var 3)))) (.const (.bool false))) (.bin .leq (.ld none (.offp 4 (.var 3))) (.conv .i64 (.var 1))) (.const (.bool false))) (.bin .leq (.conv .i64 (.var 1)) (.ld none (.offp 5 (.var 3)))) (.const (.bool false)))))
 .ret)),
  [(.var 2)]⟩
theorem okx_346 : FnOk Tryz.prog 2 377 346 xf346 := fnOk_of Tryz.func346 (np := 2) (V := [0, 1, 4, 2, 8]) (ks := []) (by kernel_rfl)

/- tipstaff/verify.alone -/
def xf357 : XF := ⟨1, [0, 2, 1],
  (.seq
 (.seq
 (.new (some 2) 122 (.var 0))
 (.set 1 (.const (.bool false))))
 (.seq
 (.set 1 (.bin .eql (.ld none (.offp 4 (.var 2))) (.ld none (.offp 5 (.var 2)))))
 .ret)),
  [(.var 1)]⟩
theorem okx_357 : FnOk Tryz.prog 2 377 357 xf357 := fnOk_of Tryz.func357 (np := 1) (V := [0, 2, 1]) (ks := []) (by kernel_rfl)

/- tipstaff/tnum.Any -/
def xf359 : XF := ⟨0, [0],
  (.seq
 (.new (some 0) 120 (.const (.agg #[(.int .u64 0), (.int .u64 0)])))
 (.seq
 (.seq
 (.chk [(.upd 1 1 (.const (.agg #[(.int .u64 0), (.int .u64 0)])) (.const (.int .u64 18446744073709551615)))])
 (.store 2 (.var 0) (.upd 1 1 (.const (.agg #[(.int .u64 0), (.int .u64 0)])) (.const (.int .u64 18446744073709551615))) []))
 .ret)),
  [(.ld (some 2) (.var 0))]⟩
theorem okx_359 : FnOk Tryz.prog 2 377 359 xf359 := fnOk_of Tryz.func359 (np := 0) (V := [0]) (ks := []) (by kernel_rfl)

/- (*tipstaff/region.Memory).Bytes -/
def xf360 : XF := ⟨3, [0, 1, 2, 6, 7, 4, 16, 8, 9, 10, 38, 34, 42, 44],
  (.seq
 (.seq
 (.new (some 5) 138 (.var 1))
 (.seq
 (.set 3 (.const (.slice none 0 0)))
 (.set 4 (.const (.int .i64 0)))))
 (.seq
 (.seq
 (.call (some 6) 255 [(.var 0), (.ld (some 4) (.var 5)), (.const (.int .i64 0)), (.mx (.var 2) (.const (.int .i64 0)))] [])
 (.seq
 (.chk [(.proj 2 (.var 6)), (.proj 1 (.var 6))])
 (.seq
 (.set 7 (.proj 0 (.var 6)))
 (.seq
 (.set 8 (.proj 1 (.var 6)))
 (.set 9 (.proj 2 (.var 6)))))))
 (.seq
 (.seq
 (.seq
 (.chk [(.pick (.pick (.pick (.un .not (.var 9)) (.const (.bool true)) (.bin .lss (.var 2) (.const (.int .i64 0)))) (.const (.bool true)) (.bin .gtr (.var 2) (.const (.int .i64 64)))) (.const (.bool false)) (.bin .eql (.ld none (.offp 0 (.var 5))) (.const (.int .i64 3))))])
 (.seq
 (.cond (.pick (.pick (.pick (.un .not (.var 9)) (.const (.bool true)) (.bin .lss (.var 2) (.const (.int .i64 0)))) (.const (.bool true)) (.bin .gtr (.var 2) (.const (.int .i64 64)))) (.const (.bool false)) (.const (.bool true)))
 (.set 11 (.bin .eql (.ld none (.offp 0 (.var 5))) (.const (.int .i64 3))))
 (.clr [11]))
 (.seq
 (.chk [(.pick (.pick (.pick (.un .not (.var 9)) (.const (.bool true)) (.bin .lss (.var 2) (.const (.int .i64 0)))) (.const (.bool true)) (.bin .gtr (.var 2) (.const (.int .i64 64)))) (.const (.bool false)) (.pick (.var 11) (.var 2) (.const (.bool false)))), (.pick (.pick (.pick (.un .not (.var 9)) (.const (.bool true)) (.bin .lss (.var 2) (.const (.int .i64 0)))) (.const (.bool true)) (.bin .gtr (.var 2) (.const (.int .i64 64)))) (.const (.bool false)) (.pick (.var 11) (.var 8) (.const (.bool false)))), (.pick (.pick (.pick (.un .not (.var 9)) (.const (.bool true)) (.bin .lss (.var 2) (.const (.int .i64 0)))) (.const (.bool true)) (.bin .gtr (.var 2) (.const (.int .i64 64)))) (.const (.bool false)) (.pick (.var 11) (.var 0) (.const (.bool false))))])
 (.cond (.pick (.pick (.pick (.un .not (.var 9)) (.const (.bool true)) (.bin .lss (.var 2) (.const (.int .i64 0)))) (.const (.bool true)) (.bin .gtr (.var 2) (.const (.int .i64 64)))) (.const (.bool false)) (.pick (.var 11) (.const (.bool true)) (.const (.bool false))))
 (.call (some 10) 257 [(.var 0), (.var 8), (.var 2)] [])
 (.clr [10])))))
 (.cond (.pick (.pick (.pick (.un .not (.var 9)) (.const (.bool true)) (.bin .lss (.var 2) (.const (.int .i64 0)))) (.const (.bool true)) (.bin .gtr (.var 2) (.const (.int .i64 64)))) (.const (.bool true)) (.pick (.var 11) (.un .not (.var 10)) (.const (.bool false))))
 (.seq
 (.seq
 (.set 3 (.const (.slice none 0 0)))
 (.set 4 (.const (.int .i64 14))))
 .ret)
 .skip))
 (.seq
 (.seq
 (.row (some 12) 5 0 (.const (.agg #[])))
 (.seq
 (.app (some 13) 5 1 (.var 12) (.var 7) [])
 (.seq
 (.set 3 (.var 13))
 (.set 4 (.const (.int .i64 0))))))
 .ret)))),
  [(.var 3), (.var 4)]⟩
theorem okx_360 : FnOk Tryz.prog 2 377 360 xf360 := fnOk_of Tryz.func360 (np := 3) (V := [0, 1, 2, 6, 7, 4, 16, 8, 9, 10, 38, 34, 42, 44]) (ks := []) (by kernel_rfl)

/- (*tipstaff/bmap.Map).next -/
def xf361 : XF := ⟨1, [0, 2, 3, 9, 4, 12, 19],
  (.seq
 (.seq
 (.set 1 (.const (.int .i64 0)))
 (.set 2 (.const (.int .i64 0))))
 (.seq
 (.block 0
 (.seq
 (.seq
 (.chk [(.pick (.isnil 0 false (.var 0)) (.const (.bool false)) (.var 0))])
 (.seq
 (.cond (.pick (.isnil 0 false (.var 0)) (.const (.bool false)) (.const (.bool true)))
 (.call (some 3) 172 [(.var 0)] [])
 (.clr [3]))
 (.set 4 (.pick (.isnil 0 false (.var 0)) (.const (.bool true)) (.un .not (.var 3))))))
 (.cond (.var 4)
 (.seq
 (.seq
 (.set 1 (.const (.int .i64 0)))
 (.set 2 (.const (.int .i64 22))))
 .ret)
 (.seq
 (.set 5 (.bin .eql (.len false (.ld none (.offp 4 (.nn (.var 0))))) (.const (.int .i64 0))))
 (.cond (.var 5)
 (.seq
 (.seq
 (.set 1 (.const (.int .i64 0)))
 (.set 2 (.const (.int .i64 2))))
 .ret)
 (.seq
 (.set 6 (.bin .eql (.ld none (.offp 0 (.offp 0 (.nn (.var 0))))) (.const (.int .i64 4))))
 (.cond (.var 6)
 (.seq
 (.seq
 (.set 1 (.bin .sub (.len false (.ld none (.offp 4 (.nn (.var 0))))) (.const (.int .i64 1))))
 (.set 2 (.const (.int .i64 0))))
 .ret)
 .skip)))))))
 (.seq
 (.seq
 (.set 1 (.const (.int .i64 0)))
 (.set 2 (.const (.int .i64 0))))
 .ret))),
  [(.var 1), (.var 2)]⟩
theorem okx_361 : FnOk Tryz.prog 2 377 361 xf361 := fnOk_of Tryz.func361 (np := 1) (V := [0, 2, 3, 9, 4, 12, 19]) (ks := []) (by kernel_rfl)

/- slices.Delete[[]*tipstaff/bmap.entry,*tipstaff/bmap.entry] -/
def xf362 : XF := ⟨3, [0, 1, 2, 6, 7, 26],
  (.seq
 (.set 3 (.const (.slice none 0 0)))
 (.seq
 (.sl3n (.var 0) (.var 1) (.var 2) (.len false (.var 0)) [])
 (.seq
 (.cond (.bin .eql (.var 1) (.var 2))
 (.seq
 (.set 3 (.var 0))
 .ret)
 .skip)
 (.seq
 (.set 4 (.len false (.var 0)))
 (.seq
 (.seq
 .skip
 (.seq
 (.app (some 5) 97 1 (.slSl 1 (.var 0) (.const (.int .i64 0)) (.var 1)) (.slSl 1 (.var 0) (.var 2) (.len false (.var 0))) [])
 (.set 0 (.var 5))))
 (.seq
 (.clear [(.pointer none)] (.slSl 1 (.var 0) (.len false (.var 0)) (.var 4)) [])
 (.seq
 (.set 3 (.var 0))
 .ret))))))),
  [(.var 3)]⟩
theorem okx_362 : FnOk Tryz.prog 2 377 362 xf362 := fnOk_of Tryz.func362 (np := 3) (V := [0, 1, 2, 6, 7, 26]) (ks := []) (by kernel_rfl)

/- slices.IndexFunc[[]int,int] -/
def xf373 : XF := ⟨2, [0, 1, 4, 8, 7, 5, 16],
  (.seq
 (.set 2 (.const (.int .i64 0)))
 (.seq
 (.seq
 (.seq
 (.set 4 (.len false (.var 0)))
 (.set 3 (.const (.int .i64 0))))
 (.block 0
 (.loop [0, 1, 3, 4]
 (.seq
 (.cond (.bin .lss (.var 3) (.var 4))
 .skip
 (.exit 0))
 (.seq
 (.block 1
 (.seq
 (.set 5 (.var 3))
 (.seq
 (.dyn (some 6) (.var 1) [(.ld none (.ixSl 1 (.var 0) (.var 5)))] [])
 (.cond (.var 6)
 (.seq
 (.set 2 (.var 5))
 .ret)
 .skip))))
 (.set 3 (.bin .add (.var 3) (.const (.int .i64 1)))))))))
 (.seq
 (.set 2 (.const (.int .i64 (-1))))
 .ret))),
  [(.var 2)]⟩
theorem okx_373 : FnOk Tryz.prog 2 377 373 xf373 := fnOk_of Tryz.func373 (np := 2) (V := [0, 1, 4, 8, 7, 5, 16]) (ks := [[0, 1, 3, 4]]) (by kernel_rfl)

/- slices.Compact[[]int,int] -/
def xf374 : XF := ⟨1, [0, 2, 3, 4, 5],
  (.seq
 (.set 1 (.const (.slice none 0 0)))
 (.seq
 (.cond (.bin .lss (.len false (.var 0)) (.const (.int .i64 2)))
 (.seq
 (.set 1 (.var 0))
 .ret)
 .skip)
 (.seq
 (.seq
 (.set 2 (.const (.int .i64 1)))
 (.block 0
 (.loop [0, 2]
 (.seq
 (.cond (.bin .lss (.var 2) (.len false (.var 0)))
 .skip
 (.exit 0))
 (.seq
 (.block 1
 (.seq
 .skip
 (.cond (.bin .eql (.ld none (.ixSl 1 (.var 0) (.var 2))) (.ld none (.ixSl 1 (.var 0) (.bin .sub (.var 2) (.const (.int .i64 1))))))
 (.seq
 (.set 3 (.slSl 1 (.var 0) (.var 2) (.len false (.var 0))))
 (.seq
 (.seq
 (.set 4 (.const (.int .i64 1)))
 (.block 2
 (.loop [0, 2, 3, 4]
 (.seq
 (.cond (.bin .lss (.var 4) (.len false (.var 3)))
 .skip
 (.exit 2))
 (.seq
 (.block 3
 (.seq
 .skip
 (.cond (.bin .neq (.ld none (.ixSl 1 (.var 3) (.var 4))) (.ld none (.ixSl 1 (.var 3) (.bin .sub (.var 4) (.const (.int .i64 1))))))
 (.seq
 (.store 1 (.ixSl 1 (.var 0) (.var 2)) (.ld none (.ixSl 1 (.var 3) (.var 4))) [])
 (.set 2 (.bin .add (.var 2) (.const (.int .i64 1)))))
 .skip)))
 (.set 4 (.bin .add (.var 4) (.const (.int .i64 1)))))))))
 (.seq
 (.clear [(.int .i64 0)] (.slSl 1 (.var 0) (.var 2) (.len false (.var 0))) [])
 (.seq
 (.set 1 (.slSl 1 (.var 0) (.const (.int .i64 0)) (.var 2)))
 .ret))))
 .skip)))
 (.set 2 (.bin .add (.var 2) (.const (.int .i64 1)))))))))
 (.seq
 (.set 1 (.var 0))
 .ret)))),
  [(.var 1)]⟩
theorem okx_374 : FnOk Tryz.prog 2 377 374 xf374 := fnOk_of Tryz.func374 (np := 1) (V := [0, 2, 3, 4, 5]) (ks := [[0, 2], [0, 2, 3, 4]]) (by kernel_rfl)

/- tipstaff/tnum.Has -/
def xf375 : XF := ⟨2, [0, 1, 4, 2],
  (.seq
 (.seq
 (.new (some 3) 120 (.var 0))
 (.set 2 (.const (.bool false))))
 (.seq
 (.set 2 (.bin .eql (.bin .andNot (.var 1) (.ld none (.offp 1 (.var 3)))) (.ld none (.offp 0 (.var 3)))))
 .ret)),
  [(.var 2)]⟩
theorem okx_375 : FnOk Tryz.prog 2 377 375 xf375 := fnOk_of Tryz.func375 (np := 2) (V := [0, 1, 4, 2]) (ks := []) (by kernel_rfl)
end Go.Proofs.YtmpgfgemnhbkhaaGreatDoor
