/- The interpreter's functions, part 1: made by program (geny.py). -/
import Derived.Test.YtmpgfgemnhbkhaaGreatDoorXttz
import Derived.Test.YtmpgfgemnhbkhaaGreatDoorProg
set_option maxRecDepth 100000
set_option linter.unusedVariables false
namespace Go.Proofs.YtmpgfgemnhbkhaaGreatDoor
open Go.Eng
/- (*tipstaff/vm.machine).jump -/
def xf92 : XF := ⟨3, [0, 1, 2, 6, 4, 5, 21, 7, 8, 16, 18, 20, 9, 22, 39, 40, 83, 12],
  (.seq
 (.seq
 (.new (some 4) 32 (.var 1))
 (.seq
 (.new (some 5) 203 (.var 2))
 (.set 3 (.const (.bool false)))))
 (.seq
 (.seq
 .skip
 (.seq
 (.chk [(.var 0)])
 (.seq
 (.set 17 (.ld none (.offp 1 (.var 4))))
 (.seq
 (.set 9 (.ld (some 4) (.ixArr 11 4 (.offp 38 (.nn (.var 0))) (.var 17))))
 (.seq
 (.chk [(.var 0)])
 (.seq
 (.set 10 (.ld (some 5) (.var 4)))
 (.seq
 (.set 11 (.ld none (.offp 4 (.var 5))))
 (.seq
 (.resv 2)
 (.seq
 (.seq
 (.set 7 (.const (.bool true)))
 (.seq
 (.set 8 (.const (.bool true)))
 .skip))
 (.seq
 (.chk [(.var 7), (.var 8)])
 (.seq
 (.clr [7, 8])
 (.seq
 (.chk [(.const (.agg #[(.int .i64 0), (.int .u64 0), (.int .i64 0), (.pointer none)])), (.const (.agg #[(.int .i64 0), (.int .u64 0), (.int .i64 0), (.pointer none)]))])
 (.seq
 (.call (some 6) 97 [(.var 0), (.var 10), (.var 11)] [(.ld none (.offp 4 (.var 5))), (.ld (some 5) (.var 4)), (.ld (some 4) (.ixArr 11 4 (.offp 38 (.nn (.var 0))) (.var 17))), (.ld none (.offp 1 (.var 4)))])
 (.seq
 (.newR 0 7 138 (.const (.agg #[(.int .i64 0), (.int .u64 0), (.int .i64 0), (.pointer none)])))
 (.seq
 (.newR 1 8 138 (.const (.agg #[(.int .i64 0), (.int .u64 0), (.int .i64 0), (.pointer none)])))
 (.seq
 (.store 4 (.var 7) (.var 9) [])
 (.seq
 (.store 4 (.var 8) (.var 6) [])
 .skip)))))))))))))))))
 (.seq
 (.set 12 (.const (.bool false)))
 (.seq
 (.block 0
 (.seq
 (.set 13 (.pick (.bin .eql (.ld none (.offp 0 (.var 7))) (.const (.int .i64 1))) (.bin .eql (.ld none (.offp 0 (.var 8))) (.const (.int .i64 1))) (.const (.bool false))))
 (.cond (.var 13)
 (.seq
 (.call (some 14) 167 [(.ld none (.offp 1 (.var 5))), (.ld none (.offp 3 (.var 5))), (.ld none (.offp 1 (.var 7))), (.ld none (.offp 1 (.var 8)))] [])
 (.set 12 (.var 14)))
 (.seq
 (.set 15 (.pick (.pick (.pick (.pick (.pick (.bin .neq (.ld none (.offp 0 (.var 7))) (.const (.int .i64 0))) (.bin .neq (.ld none (.offp 0 (.var 7))) (.const (.int .i64 1))) (.const (.bool false))) (.un .not (.ld none (.offp 4 (.var 5)))) (.const (.bool false))) (.bin .eql (.ld none (.offp 4 (.var 4))) (.const (.int .i32 0))) (.const (.bool false))) (.ld none (.offp 3 (.var 5))) (.const (.bool false))) (.pick (.bin .eql (.ld none (.offp 1 (.var 5))) (.const (.int .i64 1))) (.const (.bool true)) (.bin .eql (.ld none (.offp 1 (.var 5))) (.const (.int .i64 5)))) (.const (.bool false))))
 (.cond (.var 15)
 (.set 12 (.bin .eql (.ld none (.offp 1 (.var 5))) (.const (.int .i64 5))))
 (.seq
 (.set 3 (.const (.bool false)))
 .ret))))))
 (.seq
 (.cond (.var 12)
 (.seq
 .skip
 (.seq
 (.call (some 16) 93 [(.ld none (.offp 82 (.nn (.var 0)))), (.ld (some 5) (.var 4))] [])
 (.store 1 (.offp 82 (.nn (.var 0))) (.var 16) [])))
 (.store 1 (.offp 82 (.nn (.var 0))) (.bin .add (.ld none (.offp 82 (.nn (.var 0)))) (.const (.int .i64 1))) []))
 (.seq
 (.set 3 (.const (.bool true)))
 .ret)))))),
  [(.var 3)]⟩
theorem okx_92 : FnOk Tryz.prog 2 377 92 xf92 := fnOk_of Tryz.func92 (np := 3) (V := [0, 1, 2, 6, 4, 5, 21, 7, 8, 16, 18, 20, 9, 22, 39, 40, 83, 12]) (ks := []) (by kernel_rfl)

/- tipstaff/shape.Target -/
def xf93 : XF := ⟨2, [0, 1, 4, 3],
  (.seq
 (.seq
 (.new (some 3) 32 (.var 1))
 (.set 2 (.const (.int .i64 0))))
 (.seq
 (.set 2 (.bin .add (.bin .add (.var 0) (.conv .i64 (.ld none (.offp 3 (.var 3))))) (.const (.int .i64 1))))
 .ret)),
  [(.var 2)]⟩
theorem okx_93 : FnOk Tryz.prog 2 377 93 xf93 := fnOk_of Tryz.func93 (np := 2) (V := [0, 1, 4, 3]) (ks := []) (by kernel_rfl)

/- (*tipstaff/vm.machine).call -/
def xf94 : XF := ⟨2, [0, 1, 4, 3, 12, 5, 6, 7],
  (.seq
 (.seq
 (.new (some 3) 32 (.var 1))
 (.set 2 (.const (.bool false))))
 (.seq
 (.seq
 (.call (some 4) 168 [(.var 0), (.ld none (.offp 4 (.var 3)))] [])
 (.seq
 (.chk [(.proj 1 (.var 4)), (.proj 0 (.var 4))])
 (.seq
 (.new (some 5) 138 (.const (.agg #[(.int .i64 0), (.int .u64 0), (.int .i64 0), (.pointer none)])))
 (.seq
 (.store 4 (.var 5) (.proj 0 (.var 4)) [])
 (.set 6 (.proj 1 (.var 4)))))))
 (.seq
 (.cond (.un .not (.var 6))
 (.seq
 (.set 2 (.const (.bool false)))
 .ret)
 .skip)
 (.seq
 (.seq
 (.set 7 (.const (.int .i64 1)))
 (.block 0
 (.loop [0, 5, 7]
 (.seq
 (.cond (.bin .leq (.var 7) (.const (.int .i64 5)))
 .skip
 (.exit 0))
 (.seq
 (.block 1
 (.store 4 (.ixArr 11 4 (.offp 38 (.nn (.var 0))) (.var 7)) (.const (.agg #[(.int .i64 0), (.int .u64 0), (.int .i64 0), (.pointer none)])) []))
 (.set 7 (.bin .add (.var 7) (.const (.int .i64 1)))))))))
 (.seq
 (.seq
 .skip
 (.store 4 (.ixArr 11 4 (.offp 38 (.nn (.var 0))) (.const (.int .i64 0))) (.ld (some 4) (.var 5)) []))
 (.seq
 (.store 1 (.offp 82 (.nn (.var 0))) (.bin .add (.ld none (.offp 82 (.nn (.var 0)))) (.const (.int .i64 1))) [])
 (.seq
 (.set 2 (.const (.bool true)))
 .ret))))))),
  [(.var 2)]⟩
theorem okx_94 : FnOk Tryz.prog 2 377 94 xf94 := fnOk_of Tryz.func94 (np := 2) (V := [0, 1, 4, 3, 12, 5, 6, 7]) (ks := [[0, 5, 7]]) (by kernel_rfl)

/- (*tipstaff/vm.machine).load -/
def xf95 : XF := ⟨3, [0, 1, 2, 6, 4, 5, 26, 7, 8, 13, 20, 23, 25, 36, 16],
  (.seq
 (.seq
 (.new (some 4) 32 (.var 1))
 (.seq
 (.new (some 5) 203 (.var 2))
 (.set 3 (.const (.bool false)))))
 (.seq
 (.seq
 .skip
 (.seq
 (.set 9 (.ld none (.offp 37 (.nn (.var 0)))))
 (.seq
 (.chk [(.var 0)])
 (.seq
 (.set 14 (.ld none (.offp 2 (.var 4))))
 (.seq
 (.set 10 (.ld (some 4) (.ixArr 11 4 (.offp 38 (.nn (.var 0))) (.var 14))))
 (.seq
 (.set 11 (.conv .i64 (.ld none (.offp 3 (.var 4)))))
 (.seq
 (.set 12 (.ld none (.offp 2 (.var 5))))
 (.seq
 (.resv 1)
 (.seq
 (.seq
 (.set 7 (.const (.bool true)))
 .skip)
 (.seq
 (.chk [(.var 7)])
 (.seq
 (.clr [7])
 (.seq
 (.chk [(.const (.agg #[(.int .i64 0), (.int .u64 0), (.int .i64 0), (.pointer none)]))])
 (.seq
 (.call (some 6) 169 [(.var 9), (.var 10), (.var 11), (.var 12)] [(.ld none (.offp 2 (.var 5))), (.ld none (.offp 3 (.var 4))), (.ld (some 4) (.ixArr 11 4 (.offp 38 (.nn (.var 0))) (.var 14))), (.ld none (.offp 2 (.var 4))), (.ld none (.offp 37 (.nn (.var 0))))])
 (.seq
 (.chk [(.proj 1 (.var 6)), (.proj 0 (.var 6))])
 (.seq
 (.newR 0 7 138 (.const (.agg #[(.int .i64 0), (.int .u64 0), (.int .i64 0), (.pointer none)])))
 (.seq
 (.store 4 (.var 7) (.proj 0 (.var 6)) [])
 (.seq
 (.set 8 (.proj 1 (.var 6)))
 .skip)))))))))))))))))
 (.seq
 (.seq
 (.chk [(.pick (.bin .eql (.var 8) (.const (.int .i64 0))) (.ld (some 4) (.var 7)) (.const (.bool false))), (.pick (.bin .eql (.var 8) (.const (.int .i64 0))) (.ld none (.offp 1 (.var 4))) (.const (.bool false))), (.pick (.bin .eql (.var 8) (.const (.int .i64 0))) (.var 0) (.const (.bool false)))])
 (.seq
 (.cond (.pick (.bin .eql (.var 8) (.const (.int .i64 0))) (.const (.bool true)) (.const (.bool false)))
 (.call (some 13) 164 [(.var 0), (.ld none (.offp 1 (.var 4))), (.ld (some 4) (.var 7))] [])
 (.clr [13]))
 (.set 3 (.pick (.bin .eql (.var 8) (.const (.int .i64 0))) (.var 13) (.const (.bool false))))))
 .ret))),
  [(.var 3)]⟩
theorem okx_95 : FnOk Tryz.prog 2 377 95 xf95 := fnOk_of Tryz.func95 (np := 3) (V := [0, 1, 2, 6, 4, 5, 26, 7, 8, 13, 20, 23, 25, 36, 16]) (ks := []) (by kernel_rfl)

/- (*tipstaff/vm.machine).save -/
def xf96 : XF := ⟨4, [0, 1, 2, 3, 8, 5, 7, 25],
  (.seq
 (.seq
 (.new (some 5) 32 (.var 1))
 (.seq
 (.new (some 6) 138 (.var 3))
 (.set 4 (.const (.bool false)))))
 (.seq
 (.seq
 (.seq
 .skip
 (.call (some 7) 170 [(.ld none (.offp 37 (.nn (.var 0)))), (.ld (some 4) (.ixArr 11 4 (.offp 38 (.nn (.var 0))) (.ld none (.offp 1 (.var 5))))), (.conv .i64 (.ld none (.offp 3 (.var 5)))), (.var 2), (.ld (some 4) (.var 6))] []))
 (.cond (.bin .neq (.var 7) (.const (.int .i64 0)))
 (.seq
 (.set 4 (.const (.bool false)))
 .ret)
 .skip))
 (.seq
 (.store 1 (.offp 82 (.nn (.var 0))) (.bin .add (.ld none (.offp 82 (.nn (.var 0)))) (.const (.int .i64 1))) [])
 (.seq
 (.set 4 (.const (.bool true)))
 .ret)))),
  [(.var 4)]⟩
theorem okx_96 : FnOk Tryz.prog 2 377 96 xf96 := fnOk_of Tryz.func96 (np := 4) (V := [0, 1, 2, 3, 8, 5, 7, 25]) (ks := []) (by kernel_rfl)

/- (*tipstaff/vm.machine).second -/
def xf97 : XF := ⟨3, [0, 1, 2, 6, 4, 19],
  (.seq
 (.seq
 (.new (some 4) 32 (.var 1))
 (.new (some 3) 138 (.const (.agg #[(.int .i64 0), (.int .u64 0), (.int .i64 0), (.pointer none)]))))
 (.seq
 (.cond (.var 2)
 (.seq
 (.seq
 .skip
 (.store 4 (.var 3) (.ld (some 4) (.ixArr 11 4 (.offp 38 (.nn (.var 0))) (.ld none (.offp 2 (.var 4))))) []))
 .ret)
 .skip)
 (.seq
 (.seq
 (.call (some 5) 163 [(.conv .u64 (.conv .i64 (.ld none (.offp 4 (.var 4)))))] [])
 (.store 4 (.var 3) (.var 5) []))
 .ret))),
  [(.ld (some 4) (.var 3))]⟩
theorem okx_97 : FnOk Tryz.prog 2 377 97 xf97 := fnOk_of Tryz.func97 (np := 3) (V := [0, 1, 2, 6, 4, 19]) (ks := []) (by kernel_rfl)

/- (*tipstaff/vm.machine).atomic -/
def xf98 : XF := ⟨3, [0, 1, 2, 6, 4, 5, 28, 7, 8, 15, 22, 25, 27, 9, 37, 10, 53, 54, 60, 66, 72, 83, 79, 81, 84, 18, 33],
  (.seq
 (.seq
 (.new (some 4) 32 (.var 1))
 (.seq
 (.new (some 5) 203 (.var 2))
 (.set 3 (.const (.bool false)))))
 (.seq
 (.seq
 .skip
 (.seq
 (.set 9 (.ld none (.offp 37 (.nn (.var 0)))))
 (.seq
 (.chk [(.var 0)])
 (.seq
 (.set 25 (.ld none (.offp 1 (.var 4))))
 (.seq
 (.set 10 (.ld (some 4) (.ixArr 11 4 (.offp 38 (.nn (.var 0))) (.var 25))))
 (.seq
 (.set 11 (.conv .i64 (.ld none (.offp 3 (.var 4)))))
 (.seq
 (.set 12 (.ld none (.offp 2 (.var 5))))
 (.seq
 (.resv 1)
 (.seq
 (.seq
 (.set 7 (.const (.bool true)))
 .skip)
 (.seq
 (.chk [(.var 7)])
 (.seq
 (.clr [7])
 (.seq
 (.chk [(.const (.agg #[(.int .i64 0), (.int .u64 0), (.int .i64 0), (.pointer none)]))])
 (.seq
 (.call (some 6) 169 [(.var 9), (.var 10), (.var 11), (.var 12)] [(.ld none (.offp 2 (.var 5))), (.ld none (.offp 3 (.var 4))), (.ld (some 4) (.ixArr 11 4 (.offp 38 (.nn (.var 0))) (.var 25))), (.ld none (.offp 1 (.var 4))), (.ld none (.offp 37 (.nn (.var 0))))])
 (.seq
 (.chk [(.proj 1 (.var 6)), (.proj 0 (.var 6))])
 (.seq
 (.newR 0 7 138 (.const (.agg #[(.int .i64 0), (.int .u64 0), (.int .i64 0), (.pointer none)])))
 (.seq
 (.store 4 (.var 7) (.proj 0 (.var 6)) [])
 (.seq
 (.set 8 (.proj 1 (.var 6)))
 .skip)))))))))))))))))
 (.seq
 (.seq
 .skip
 (.seq
 (.chk [(.var 0)])
 (.seq
 (.set 26 (.ld none (.offp 2 (.var 4))))
 (.seq
 (.set 14 (.ld (some 4) (.ixArr 11 4 (.offp 38 (.nn (.var 0))) (.var 26))))
 (.seq
 (.new (some 13) 138 (.const (.agg #[(.int .i64 0), (.int .u64 0), (.int .i64 0), (.pointer none)])))
 (.store 4 (.var 13) (.var 14) []))))))
 (.seq
 (.cond (.pick (.pick (.bin .neq (.var 8) (.const (.int .i64 0))) (.const (.bool true)) (.bin .neq (.ld none (.offp 0 (.var 7))) (.const (.int .i64 1)))) (.const (.bool true)) (.bin .neq (.ld none (.offp 0 (.var 13))) (.const (.int .i64 1))))
 (.seq
 (.set 3 (.const (.bool false)))
 .ret)
 .skip)
 (.seq
 (.set 15 (.ld none (.offp 1 (.var 7))))
 (.seq
 (.seq
 (.set 16 (.ld none (.offp 4 (.var 4))))
 (.block 0
 (.seq
 (.set 17 (.bin .eql (.var 16) (.const (.int .i32 0))))
 (.cond (.var 17)
 (.set 15 (.bin .add (.var 15) (.ld none (.offp 1 (.var 13)))))
 (.seq
 (.set 18 (.bin .eql (.var 16) (.const (.int .i32 64))))
 (.cond (.var 18)
 (.set 15 (.bin .or (.var 15) (.ld none (.offp 1 (.var 13)))))
 (.seq
 (.set 19 (.bin .eql (.var 16) (.const (.int .i32 80))))
 (.cond (.var 19)
 (.set 15 (.bin .and (.var 15) (.ld none (.offp 1 (.var 13)))))
 (.seq
 (.set 20 (.bin .eql (.var 16) (.const (.int .i32 160))))
 (.cond (.var 20)
 (.set 15 (.bin .xor (.var 15) (.ld none (.offp 1 (.var 13)))))
 (.seq
 (.set 3 (.const (.bool false)))
 .ret)))))))))))
 (.seq
 (.seq
 .skip
 (.seq
 (.chk [(.var 0)])
 (.seq
 (.set 22 (.ld (some 5) (.var 4)))
 (.seq
 (.set 23 (.ld none (.offp 2 (.var 5))))
 (.seq
 (.call (some 21) 163 [(.var 15)] [(.ld none (.offp 2 (.var 5))), (.ld (some 5) (.var 4))])
 (.seq
 (.call (some 24) 96 [(.var 0), (.var 22), (.var 23), (.var 21)] [])
 (.set 3 (.var 24))))))))
 .ret))))))),
  [(.var 3)]⟩
theorem okx_98 : FnOk Tryz.prog 2 377 98 xf98 := fnOk_of Tryz.func98 (np := 3) (V := [0, 1, 2, 6, 4, 5, 28, 7, 8, 15, 22, 25, 27, 9, 37, 10, 53, 54, 60, 66, 72, 83, 79, 81, 84, 18, 33]) (ks := []) (by kernel_rfl)

/- (*tipstaff/vm.machine).wide -/
def xf99 : XF := ⟨2, [0, 1, 4, 3, 30, 17, 54, 5, 53, 56, 57, 59, 68, 78, 9, 14, 21, 25, 41, 45],
  (.seq
 (.seq
 (.new (some 3) 32 (.var 1))
 (.set 2 (.const (.bool false))))
 (.seq
 (.seq
 (.seq
 .skip
 (.seq
 (.set 14 (.ld none (.offp 82 (.nn (.var 0)))))
 (.seq
 (.chk [(.bin .add (.var 14) (.const (.int .i64 1)))])
 (.seq
 (.set 15 (.ld none (.offp 0 (.nn (.var 0)))))
 (.seq
 (.set 5 (.bin .geq (.bin .add (.var 14) (.const (.int .i64 1))) (.len false (.var 15))))
 (.seq
 (.chk [(.pick (.var 5) (.const (.bool false)) (.offp 0 (.nn (.var 0))))])
 (.seq
 (.cond (.pick (.var 5) (.const (.bool false)) (.const (.bool true)))
 (.set 16 (.ld none (.offp 0 (.nn (.var 0)))))
 (.clr [16]))
 (.seq
 (.chk [(.pick (.var 5) (.const (.bool false)) (.offp 82 (.nn (.var 0))))])
 (.seq
 (.cond (.pick (.var 5) (.const (.bool false)) (.const (.bool true)))
 (.set 17 (.ld none (.offp 82 (.nn (.var 0)))))
 (.clr [17]))
 (.seq
 (.chk [(.pick (.var 5) (.const (.bool false)) (.ld none (.offp 0 (.ixSl 5 (.var 16) (.bin .add (.var 17) (.const (.int .i64 1)))))))])
 (.cond (.pick (.var 5) (.const (.bool false)) (.const (.bool true)))
 (.call (some 4) 90 [(.ld none (.offp 0 (.ixSl 5 (.var 16) (.bin .add (.var 17) (.const (.int .i64 1))))))] [])
 (.clr [4]))))))))))))
 (.cond (.pick (.var 5) (.const (.bool true)) (.bin .neq (.part none 0 (.var 4)) (.const (.int .i64 10))))
 (.seq
 (.set 2 (.const (.bool false)))
 .ret)
 .skip))
 (.seq
 (.seq
 .skip
 (.seq
 (.chk [(.conv .u64 (.conv .u32 (.ld none (.offp 4 (.var 3)))))])
 (.seq
 (.set 18 (.ld none (.offp 0 (.nn (.var 0)))))
 (.seq
 (.set 19 (.ld none (.offp 82 (.nn (.var 0)))))
 (.seq
 (.set 8 (.bin .or (.conv .u64 (.conv .u32 (.ld none (.offp 4 (.var 3))))) (.bin .shl (.conv .u64 (.conv .u32 (.ld none (.offp 4 (.ixSl 5 (.var 18) (.bin .add (.var 19) (.const (.int .i64 1)))))))) (.const (.int .u64 32)))))
 (.seq
 (.resv 1)
 (.seq
 (.seq
 (.set 7 (.const (.bool true)))
 .skip)
 (.seq
 (.chk [(.var 7)])
 (.seq
 (.clr [7])
 (.seq
 (.chk [(.const (.agg #[(.int .i64 0), (.int .u64 0), (.int .i64 0), (.pointer none)]))])
 (.seq
 (.call (some 6) 163 [(.var 8)] [(.ld none (.offp 4 (.ixSl 5 (.var 18) (.bin .add (.var 19) (.const (.int .i64 1)))))), (.ld none (.offp 82 (.nn (.var 0)))), (.ld none (.offp 0 (.nn (.var 0)))), (.ld none (.offp 4 (.var 3)))])
 (.seq
 (.newR 0 7 138 (.const (.agg #[(.int .i64 0), (.int .u64 0), (.int .i64 0), (.pointer none)])))
 (.seq
 (.store 4 (.var 7) (.var 6) [])
 .skip)))))))))))))
 (.seq
 (.seq
 (.set 9 (.ld none (.offp 2 (.var 3))))
 (.block 0
 (.seq
 (.set 10 (.bin .eql (.var 9) (.const (.int .u8 0))))
 (.cond (.var 10)
 .skip
 (.seq
 (.set 11 (.bin .eql (.var 9) (.const (.int .u8 1))))
 (.cond (.var 11)
 (.seq
 (.seq
 (.seq
 .skip
 (.call (some 12) 171 [(.ld none (.offp 37 (.nn (.var 0)))), (.conv .i64 (.ld none (.offp 4 (.var 3))))] []))
 (.cond (.isnil 0 false (.var 12))
 (.seq
 (.set 2 (.const (.bool false)))
 .ret)
 .skip))
 (.seq
 (.chk [(.upd 2 1 (.upd 0 1 (.const (.agg #[(.int .i64 0), (.int .u64 0), (.int .i64 0), (.pointer none)])) (.const (.int .i64 4))) (.conv .i64 (.ld none (.offp 4 (.var 3)))))])
 (.store 4 (.var 7) (.upd 2 1 (.upd 0 1 (.const (.agg #[(.int .i64 0), (.int .u64 0), (.int .i64 0), (.pointer none)])) (.const (.int .i64 4))) (.conv .i64 (.ld none (.offp 4 (.var 3))))) [])))
 (.seq
 (.set 2 (.const (.bool false)))
 .ret)))))))
 (.seq
 (.seq
 (.call (some 13) 164 [(.var 0), (.ld none (.offp 1 (.var 3))), (.ld (some 4) (.var 7))] [])
 (.cond (.un .not (.var 13))
 (.seq
 (.set 2 (.const (.bool false)))
 .ret)
 .skip))
 (.seq
 (.store 1 (.offp 82 (.nn (.var 0))) (.bin .add (.ld none (.offp 82 (.nn (.var 0)))) (.const (.int .i64 1))) [])
 (.seq
 (.set 2 (.const (.bool true)))
 .ret))))))),
  [(.var 2)]⟩
theorem okx_99 : FnOk Tryz.prog 2 377 99 xf99 := fnOk_of Tryz.func99 (np := 2) (V := [0, 1, 4, 3, 30, 17, 54, 5, 53, 56, 57, 59, 68, 78, 9, 14, 21, 25, 41, 45]) (ks := []) (by kernel_rfl)

/- (*tipstaff/bmap.Map).right -/
def xf100 : XF := ⟨2, [0, 1, 4, 9, 29, 27],
  (.seq
 (.set 2 (.const (.bool false)))
 (.seq
 (.seq
 (.seq
 (.chk [(.pick (.isnil 0 false (.var 0)) (.const (.bool false)) (.var 0))])
 (.cond (.pick (.isnil 0 false (.var 0)) (.const (.bool false)) (.const (.bool true)))
 (.call (some 3) 172 [(.var 0)] [])
 (.clr [3])))
 (.cond (.pick (.pick (.isnil 0 false (.var 0)) (.const (.bool true)) (.var 3)) (.const (.bool true)) (.bin .neq (.len false (.var 1)) (.ld none (.offp 1 (.offp 0 (.nn (.var 0)))))))
 (.seq
 (.set 2 (.const (.bool false)))
 .ret)
 .skip))
 (.seq
 (.seq
 (.set 5 (.bin .neq (.ld none (.offp 0 (.offp 0 (.nn (.var 0))))) (.const (.int .i64 5))))
 (.seq
 (.chk [(.pick (.var 5) (.const (.bool false)) (.var 1))])
 (.seq
 (.cond (.pick (.var 5) (.const (.bool false)) (.const (.bool true)))
 (.call (some 4) 173 [(.var 1)] [])
 (.clr [4]))
 (.set 2 (.pick (.var 5) (.const (.bool true)) (.bin .leq (.var 4) (.bin .mul (.const (.int .i64 8)) (.bin .sub (.len false (.var 1)) (.const (.int .i64 4))))))))))
 .ret))),
  [(.var 2)]⟩
theorem okx_100 : FnOk Tryz.prog 2 377 100 xf100 := fnOk_of Tryz.func100 (np := 2) (V := [0, 1, 4, 9, 29, 27]) (ks := []) (by kernel_rfl)

/- (*tipstaff/bmap.Map).exact -/
def xf101 : XF := ⟨2, [0, 1, 4, 9, 5, 15, 6],
  (.seq
 (.set 2 (.const (.pointer none)))
 (.seq
 (.seq
 (.call (some 3) 174 [(.var 0), (.var 1)] [])
 (.seq
 (.new (some 4) 9 (.const (.string ⟨#[]⟩)))
 (.store 1 (.var 4) (.var 3) [])))
 (.seq
 (.seq
 (.chk [(.cap1 (.const (.func (.func 176) #[] #[])) (.var 4))])
 (.seq
 (.call (some 5) 175 [(.ld none (.offp 4 (.nn (.var 0)))), (.cap1 (.const (.func (.func 176) #[] #[])) (.var 4))] [])
 (.set 6 (.var 5))))
 (.seq
 (.cond (.bin .lss (.var 6) (.const (.int .i64 0)))
 (.seq
 (.set 2 (.const (.pointer none)))
 .ret)
 .skip)
 (.seq
 (.set 2 (.ld none (.ixSl 1 (.ld none (.offp 4 (.nn (.var 0)))) (.var 6))))
 .ret))))),
  [(.var 2)]⟩
theorem okx_101 : FnOk Tryz.prog 2 377 101 xf101 := fnOk_of Tryz.func101 (np := 2) (V := [0, 1, 4, 9, 5, 15, 6]) (ks := []) (by kernel_rfl)

/- (*tipstaff/bmap.Map).use -/
def xf103 : XF := ⟨2, [0, 1],
  (.seq
 (.store 1 (.offp 6 (.nn (.var 0))) (.bin .add (.ld none (.offp 6 (.nn (.var 0)))) (.const (.int .i64 1))) [])
 (.store 1 (.offp 2 (.nn (.var 1))) (.ld none (.offp 6 (.nn (.var 0)))) [])),
  []⟩
theorem okx_103 : FnOk Tryz.prog 2 377 103 xf103 := fnOk_of Tryz.func103 (np := 2) (V := [0, 1]) (ks := []) (by kernel_rfl)

/- (*tipstaff/bmap.Map).Spec -/
def xf112 : XF := ⟨1, [0, 2],
  (.seq
 (.new (some 1) 24 (.const (.agg (Array.replicate 4 (.int .i64 0)))))
 (.seq
 (.cond (.isnil 0 false (.var 0))
 (.seq
 (.store 4 (.var 1) (.const (.agg (Array.replicate 4 (.int .i64 0)))) [])
 .ret)
 .skip)
 (.seq
 (.store 4 (.var 1) (.ld (some 4) (.offp 0 (.nn (.var 0)))) [])
 .ret))),
  [(.ld (some 4) (.var 1))]⟩
theorem okx_112 : FnOk Tryz.prog 2 377 112 xf112 := fnOk_of Tryz.func112 (np := 1) (V := [0, 2]) (ks := []) (by kernel_rfl)

/- (*tipstaff/bmap.Map).Frozen -/
def xf113 : XF := ⟨1, [0, 2],
  (.seq
 (.set 1 (.const (.bool false)))
 (.seq
 (.set 1 (.pick (.isnil 0 true (.var 0)) (.ld none (.offp 5 (.nn (.var 0)))) (.const (.bool false))))
 .ret)),
  [(.var 1)]⟩
theorem okx_113 : FnOk Tryz.prog 2 377 113 xf113 := fnOk_of Tryz.func113 (np := 1) (V := [0, 2]) (ks := []) (by kernel_rfl)

/- tipstaff/digest.words -/
def xf141 : XF := ⟨1, [0, 2, 3, 13, 12, 11, 4, 5, 6, 7, 8, 43, 45, 9, 51, 53, 10],
  (.seq
 (.new (some 1) 259 (.const (.agg (Array.replicate 64 (.int .u32 0)))))
 (.seq
 (.new (some 2) 259 (.const (.agg (Array.replicate 64 (.int .u32 0)))))
 (.seq
 (.seq
 (.seq
 (.set 5 (.var 0))
 (.seq
 (.set 4 (.len false (.var 5)))
 (.set 3 (.const (.int .i64 0)))))
 (.block 0
 (.loop [1, 2, 3, 4, 5]
 (.seq
 (.cond (.bin .lss (.var 3) (.var 4))
 .skip
 (.exit 0))
 (.seq
 (.block 1
 (.seq
 (.seq
 (.chk [(.ld none (.ixSl 1 (.var 5) (.var 3)))])
 (.seq
 (.set 6 (.var 3))
 (.set 7 (.ld none (.ixSl 1 (.var 5) (.var 3))))))
 (.store 1 (.ixArr 64 1 (.var 2) (.bin .quo (.var 6) (.const (.int .i64 4)))) (.bin .or (.bin .shl (.ld none (.ixArr 64 1 (.var 2) (.bin .quo (.var 6) (.const (.int .i64 4))))) (.const (.int .u64 8))) (.conv .u32 (.var 7))) [])))
 (.set 3 (.bin .add (.var 3) (.const (.int .i64 1)))))))))
 (.seq
 (.seq
 (.set 8 (.const (.int .i64 16)))
 (.block 2
 (.loop [1, 2, 8]
 (.seq
 (.cond (.bin .lss (.var 8) (.const (.int .i64 64)))
 .skip
 (.exit 2))
 (.seq
 (.block 3
 (.seq
 (.seq
 .skip
 (.seq
 (.chk [(.ld none (.ixArr 64 1 (.var 2) (.bin .sub (.var 8) (.const (.int .i64 2)))))])
 (.seq
 (.set 9 (.ld none (.ixArr 64 1 (.var 2) (.bin .sub (.var 8) (.const (.int .i64 15))))))
 (.set 10 (.ld none (.ixArr 64 1 (.var 2) (.bin .sub (.var 8) (.const (.int .i64 2)))))))))
 (.seq
 (.seq
 (.call (some 11) 142 [(.var 9), (.const (.int .i64 7))] [])
 (.seq
 (.call (some 12) 142 [(.var 9), (.const (.int .i64 18))] [])
 (.set 13 (.bin .xor (.bin .xor (.var 11) (.var 12)) (.bin .shr (.var 9) (.const (.int .u64 3)))))))
 (.seq
 (.seq
 (.call (some 14) 142 [(.var 10), (.const (.int .i64 17))] [])
 (.seq
 (.call (some 15) 142 [(.var 10), (.const (.int .i64 19))] [])
 (.set 16 (.bin .xor (.bin .xor (.var 14) (.var 15)) (.bin .shr (.var 10) (.const (.int .u64 10)))))))
 (.seq
 .skip
 (.store 1 (.ixArr 64 1 (.var 2) (.var 8)) (.bin .add (.bin .add (.bin .add (.var 16) (.ld none (.ixArr 64 1 (.var 2) (.bin .sub (.var 8) (.const (.int .i64 7)))))) (.var 13)) (.ld none (.ixArr 64 1 (.var 2) (.bin .sub (.var 8) (.const (.int .i64 16)))))) []))))))
 (.set 8 (.bin .add (.var 8) (.const (.int .i64 1)))))))))
 (.seq
 (.store 64 (.var 1) (.ld (some 64) (.var 2)) [])
 .ret))))),
  [(.ld (some 64) (.var 1))]⟩
theorem okx_141 : FnOk Tryz.prog 2 377 141 xf141 := fnOk_of Tryz.func141 (np := 1) (V := [0, 2, 3, 13, 12, 11, 4, 5, 6, 7, 8, 43, 45, 9, 51, 53, 10]) (ks := [[1, 2, 3, 4, 5], [1, 2, 8]]) (by kernel_rfl)

/- tipstaff/digest.right -/
def xf142 : XF := ⟨2, [0, 1, 4, 8],
  (.seq
 (.set 2 (.const (.int .u32 0)))
 (.seq
 (.seq
 (.call (some 3) 217 [(.var 0), (.un .neg (.var 1))] [])
 (.set 2 (.var 3)))
 .ret)),
  [(.var 2)]⟩
theorem okx_142 : FnOk Tryz.prog 2 377 142 xf142 := fnOk_of Tryz.func142 (np := 2) (V := [0, 1, 4, 8]) (ks := []) (by kernel_rfl)

/- tipstaff/shape.one -/
def xf143 : XF := ⟨2, [0, 1, 4, 5, 12, 15, 6, 22, 20, 19, 23, 29, 26, 37, 38, 43, 44, 49, 7, 8, 53, 57, 58, 62, 63, 73],
  (.seq
 (.set 2 (.const (.bool false)))
 (.seq
 (.seq
 (.set 4 (.ld (some 5) (.ixSl 5 (.var 0) (.var 1))))
 (.seq
 (.new (some 3) 32 (.const zA2))
 (.store 5 (.var 3) (.var 4) [])))
 (.seq
 (.seq
 (.call (some 5) 90 [(.ld none (.offp 0 (.var 3)))] [])
 (.seq
 (.new (some 6) 203 (.const zA3))
 (.store 5 (.var 6) (.var 5) [])))
 (.seq
 (.seq
 (.seq
 .skip
 (.seq
 (.set 9 (.bin .eql (.ld none (.offp 0 (.var 6))) (.const (.int .i64 0))))
 (.seq
 (.cond (.pick (.var 9) (.const (.bool false)) (.const (.bool true)))
 (.set 8 (.ld (some 5) (.var 3)))
 (.clr [8]))
 (.seq
 (.chk [(.pick (.var 9) (.const (.bool false)) (.ld (some 5) (.var 6)))])
 (.seq
 (.cond (.pick (.var 9) (.const (.bool false)) (.const (.bool true)))
 (.call (some 7) 219 [(.ld (some 5) (.var 6))] [(.ld (some 5) (.var 3))])
 (.clr [7]))
 (.seq
 (.cond (.pick (.var 9) (.const (.bool false)) (.const (.bool true)))
 (.call (some 10) 218 [(.var 8), (.var 7)] [])
 (.clr [10]))
 (.seq
 (.set 12 (.pick (.var 9) (.const (.bool true)) (.un .not (.var 10))))
 (.seq
 (.chk [(.pick (.var 12) (.const (.bool false)) (.ld none (.offp 0 (.var 6))))])
 (.cond (.pick (.var 12) (.const (.bool false)) (.const (.bool true)))
 (.call (some 11) 220 [(.ld none (.offp 0 (.var 6)))] [])
 (.clr [11]))))))))))
 (.cond (.pick (.var 12) (.const (.bool true)) (.pick (.var 11) (.bin .eql (.ld none (.offp 1 (.var 3))) (.const (.int .u8 10))) (.const (.bool false))))
 (.seq
 (.set 2 (.const (.bool false)))
 .ret)
 .skip))
 (.seq
 (.seq
 (.set 13 (.ld none (.offp 0 (.var 6))))
 (.block 0
 (.seq
 (.set 14 (.bin .eql (.var 13) (.const (.int .i64 1))))
 (.cond (.var 14)
 (.seq
 (.seq
 (.call (some 15) 221 [(.ld (some 5) (.var 6)), (.ld none (.offp 4 (.var 3)))] [])
 (.set 2 (.var 15)))
 .ret)
 (.seq
 (.set 16 (.bin .eql (.var 13) (.const (.int .i64 4))))
 (.cond (.var 16)
 (.seq
 (.seq
 (.call (some 17) 222 [(.ld none (.offp 4 (.var 3)))] [])
 (.seq
 (.chk [(.proj 1 (.var 17))])
 (.seq
 (.set 18 (.proj 0 (.var 17)))
 (.set 19 (.proj 1 (.var 17))))))
 (.seq
 (.set 2 (.var 19))
 .ret))
 (.seq
 (.set 20 (.bin .eql (.var 13) (.const (.int .i64 8))))
 (.cond (.var 20)
 (.seq
 (.seq
 (.call (some 21) 223 [(.ld none (.offp 4 (.var 3)))] [])
 (.set 2 (.var 21)))
 .ret)
 (.seq
 (.set 22 (.bin .eql (.var 13) (.const (.int .i64 9))))
 (.cond (.var 22)
 (.seq
 (.seq
 (.call (some 23) 224 [(.var 0), (.var 1)] [])
 (.set 2 (.var 23)))
 .ret)
 (.seq
 (.set 24 (.bin .eql (.var 13) (.const (.int .i64 10))))
 (.cond (.var 24)
 (.seq
 (.seq
 (.chk [(.pick (.bin .gtr (.var 1) (.const (.int .i64 0))) (.ld (some 5) (.ixSl 5 (.var 0) (.bin .sub (.var 1) (.const (.int .i64 1))))) (.const (.bool false)))])
 (.seq
 (.cond (.pick (.bin .gtr (.var 1) (.const (.int .i64 0))) (.const (.bool true)) (.const (.bool false)))
 (.call (some 25) 145 [(.ld (some 5) (.ixSl 5 (.var 0) (.bin .sub (.var 1) (.const (.int .i64 1)))))] [])
 (.clr [25]))
 (.set 2 (.pick (.bin .gtr (.var 1) (.const (.int .i64 0))) (.bin .eql (.var 25) (.const (.int .i64 9))) (.const (.bool false))))))
 .ret)
 .skip))))))))))))
 (.seq
 (.set 2 (.const (.bool true)))
 .ret)))))),
  [(.var 2)]⟩
theorem okx_143 : FnOk Tryz.prog 2 377 143 xf143 := fnOk_of Tryz.func143 (np := 2) (V := [0, 1, 4, 5, 12, 15, 6, 22, 20, 19, 23, 29, 26, 37, 38, 43, 44, 49, 7, 8, 53, 57, 58, 62, 63, 73]) (ks := []) (by kernel_rfl)

/- tipstaff/shape.lands -/
def xf144 : XF := ⟨2, [0, 1, 4, 11, 5, 23, 6, 37],
  (.seq
 (.set 2 (.const (.bool false)))
 (.seq
 (.seq
 (.seq
 (.call (some 3) 145 [(.ld (some 5) (.ixSl 5 (.var 0) (.var 1)))] [])
 (.set 4 (.var 3)))
 (.cond (.pick (.bin .neq (.var 4) (.const (.int .i64 2))) (.bin .neq (.var 4) (.const (.int .i64 3))) (.const (.bool false)))
 (.seq
 (.set 2 (.const (.bool true)))
 .ret)
 .skip))
 (.seq
 (.seq
 (.call (some 5) 93 [(.var 1), (.ld (some 5) (.ixSl 5 (.var 0) (.var 1)))] [])
 (.set 6 (.var 5)))
 (.seq
 (.seq
 (.chk [(.pick (.pick (.bin .geq (.var 6) (.const (.int .i64 0))) (.bin .lss (.var 6) (.len false (.var 0))) (.const (.bool false))) (.ld (some 5) (.ixSl 5 (.var 0) (.var 6))) (.const (.bool false)))])
 (.seq
 (.cond (.pick (.pick (.bin .geq (.var 6) (.const (.int .i64 0))) (.bin .lss (.var 6) (.len false (.var 0))) (.const (.bool false))) (.const (.bool true)) (.const (.bool false)))
 (.call (some 7) 145 [(.ld (some 5) (.ixSl 5 (.var 0) (.var 6)))] [])
 (.clr [7]))
 (.set 2 (.pick (.pick (.bin .geq (.var 6) (.const (.int .i64 0))) (.bin .lss (.var 6) (.len false (.var 0))) (.const (.bool false))) (.bin .neq (.var 7) (.const (.int .i64 10))) (.const (.bool false))))))
 .ret)))),
  [(.var 2)]⟩
theorem okx_144 : FnOk Tryz.prog 2 377 144 xf144 := fnOk_of Tryz.func144 (np := 2) (V := [0, 1, 4, 11, 5, 23, 6, 37]) (ks := []) (by kernel_rfl)

/- tipstaff/shape.kind -/
def xf145 : XF := ⟨1, [0, 2, 1, 5],
  (.seq
 (.seq
 (.new (some 2) 32 (.var 0))
 (.set 1 (.const (.int .i64 0))))
 (.seq
 (.seq
 (.call (some 3) 90 [(.ld none (.offp 0 (.var 2)))] [])
 (.set 1 (.part none 0 (.var 3))))
 .ret)),
  [(.var 1)]⟩
theorem okx_145 : FnOk Tryz.prog 2 377 145 xf145 := fnOk_of Tryz.func145 (np := 1) (V := [0, 2, 1, 5]) (ks := []) (by kernel_rfl)

/- tipstaff/cfg.walked -/
def xf146 : XF := ⟨1, [0, 2, 7, 9, 3],
  (.seq
 (.set 1 (.const (.pointer none)))
 (.seq
 (.seq
 (.mk (some 2) 3 [(.int .i64 0)] (.len false (.var 0)) (.len false (.var 0)) [])
 (.seq
 (.chk [(.upd 1 1 (.upd 0 1 (.const (.agg #[(.slice none 0 0), (.slice none 0 0), (.bool false)])) (.var 0)) (.var 2))])
 (.seq
 (.new (some 3) 268 (.upd 1 1 (.upd 0 1 (.const (.agg #[(.slice none 0 0), (.slice none 0 0), (.bool false)])) (.var 0)) (.var 2)))
 (.set 4 (.var 3)))))
 (.seq
 (.cond (.bin .gtr (.len false (.var 0)) (.const (.int .i64 0)))
 (.call none 225 [(.var 4), (.const (.int .i64 0))] [])
 .skip)
 (.seq
 (.set 1 (.var 4))
 .ret)))),
  [(.var 1)]⟩
theorem okx_146 : FnOk Tryz.prog 2 377 146 xf146 := fnOk_of Tryz.func146 (np := 1) (V := [0, 2, 7, 9, 3]) (ks := []) (by kernel_rfl)

/- tipstaff/cfg.kind -/
def xf147 : XF := ⟨1, [0, 2, 1, 5],
  (.seq
 (.seq
 (.new (some 2) 32 (.var 0))
 (.set 1 (.const (.int .i64 0))))
 (.seq
 (.seq
 (.call (some 3) 90 [(.ld none (.offp 0 (.var 2)))] [])
 (.set 1 (.part none 0 (.var 3))))
 .ret)),
  [(.var 1)]⟩
theorem okx_147 : FnOk Tryz.prog 2 377 147 xf147 := fnOk_of Tryz.func147 (np := 1) (V := [0, 2, 1, 5]) (ks := []) (by kernel_rfl)

/- slices.ContainsFunc[[]tipstaff/absreg.State,tipstaff/absreg.State] -/
def xf148 : XF := ⟨2, [0, 1, 4, 7],
  (.seq
 (.set 2 (.const (.bool false)))
 (.seq
 (.seq
 (.call (some 3) 226 [(.var 0), (.var 1)] [])
 (.set 2 (.bin .geq (.var 3) (.const (.int .i64 0)))))
 .ret)),
  [(.var 2)]⟩
theorem okx_148 : FnOk Tryz.prog 2 377 148 xf148 := fnOk_of Tryz.func148 (np := 2) (V := [0, 1, 4, 7]) (ks := []) (by kernel_rfl)

/- (*tipstaff/verify.checker).alu -/
def xf151 : XF := ⟨4, [0, 1, 2, 3, 8, 9, 5, 6, 7, 26, 10, 11, 20, 22, 23, 25, 35, 52, 12, 58, 65, 13, 14, 84, 16],
  (.seq
 (.seq
 (.new (some 6) 132 (.var 1))
 (.seq
 (.new (some 7) 32 (.var 2))
 (.seq
 (.new (some 8) 203 (.var 3))
 (.seq
 (.set 4 (.const (.slice none 0 0)))
 (.set 5 (.const (.bool false)))))))
 (.seq
 (.seq
 .skip
 (.seq
 (.set 24 (.ld none (.offp 1 (.var 7))))
 (.seq
 (.set 12 (.ld (some 11) (.ixArr 11 11 (.offp 0 (.offp 1 (.var 6))) (.var 24))))
 (.seq
 (.set 13 (.ld (some 273) (.offp 1 (.var 6))))
 (.seq
 (.set 14 (.ld (some 5) (.var 7)))
 (.seq
 (.set 15 (.ld none (.offp 4 (.var 8))))
 (.seq
 (.resv 2)
 (.seq
 (.seq
 (.set 10 (.const (.bool true)))
 (.seq
 (.set 11 (.const (.bool true)))
 .skip))
 (.seq
 (.chk [(.var 10), (.var 11)])
 (.seq
 (.clr [10, 11])
 (.seq
 (.chk [(.const zA9), (.const zA9)])
 (.seq
 (.call (some 9) 157 [(.var 13), (.var 14), (.var 15)] [(.ld none (.offp 4 (.var 8))), (.ld (some 5) (.var 7)), (.ld (some 273) (.offp 1 (.var 6))), (.ld (some 11) (.ixArr 11 11 (.offp 0 (.offp 1 (.var 6))) (.var 24))), (.ld none (.offp 1 (.var 7)))])
 (.seq
 (.newR 0 10 124 (.const zA9))
 (.seq
 (.newR 1 11 124 (.const zA9))
 (.seq
 (.store 11 (.var 10) (.var 12) [])
 (.seq
 (.store 11 (.var 11) (.var 9) [])
 .skip))))))))))))))))
 (.seq
 (.cond (.pick (.bin .eql (.ld none (.offp 1 (.var 8))) (.const (.int .i64 11))) (.bin .eql (.ld none (.offp 0 (.var 11))) (.const (.int .i64 1))) (.const (.bool false)))
 (.seq
 (.call (some 16) 228 [(.const (.int .u64 0))] [])
 (.store 11 (.var 10) (.var 16) []))
 .skip)
 (.seq
 (.cond (.pick (.bin .eql (.ld none (.offp 0 (.var 10))) (.const (.int .i64 1))) (.bin .eql (.ld none (.offp 0 (.var 11))) (.const (.int .i64 1))) (.const (.bool false)))
 (.seq
 (.seq
 (.call (some 17) 229 [(.ld none (.offp 1 (.var 8))), (.ld none (.offp 3 (.var 8))), (.ld (some 6) (.offp 1 (.var 10))), (.ld (some 6) (.offp 1 (.var 11)))] [])
 (.seq
 (.chk [(.upd 1 6 (.upd 0 1 (.const zA9) (.const (.int .i64 1))) (.var 17))])
 (.seq
 (.new (some 18) 124 (.const zA9))
 (.store 11 (.var 18) (.upd 1 6 (.upd 0 1 (.const zA9) (.const (.int .i64 1))) (.var 17)) []))))
 (.seq
 (.seq
 (.call (some 19) 230 [(.ld (some 274) (.var 6)), (.ld none (.offp 1 (.var 7))), (.ld (some 11) (.var 18)), (.const (.int .i64 1))] [])
 (.seq
 (.set 4 (.var 19))
 (.set 5 (.const (.bool true)))))
 .ret))
 .skip)
 (.seq
 (.seq
 (.call (some 20) 231 [(.var 0), (.ld none (.offp 1 (.var 8))), (.ld (some 11) (.var 10)), (.ld (some 11) (.var 11))] [])
 (.seq
 (.chk [(.proj 1 (.var 20)), (.proj 0 (.var 20))])
 (.seq
 (.new (some 21) 124 (.const zA9))
 (.seq
 (.store 11 (.var 21) (.proj 0 (.var 20)) [])
 (.set 22 (.proj 1 (.var 20)))))))
 (.seq
 (.cond (.pick (.pick (.un .not (.var 22)) (.const (.bool true)) (.un .not (.ld none (.offp 3 (.var 8))))) (.const (.bool true)) (.bin .eql (.ld none (.offp 1 (.var 8))) (.const (.int .i64 8))))
 (.seq
 (.seq
 (.set 4 (.const (.slice none 0 0)))
 (.set 5 (.const (.bool false))))
 .ret)
 .skip)
 (.seq
 (.seq
 (.call (some 23) 230 [(.ld (some 274) (.var 6)), (.ld none (.offp 1 (.var 7))), (.ld (some 11) (.var 21)), (.const (.int .i64 1))] [])
 (.seq
 (.set 4 (.var 23))
 (.set 5 (.const (.bool true)))))
 .ret))))))),
  [(.var 4), (.var 5)]⟩
theorem okx_151 : FnOk Tryz.prog 2 377 151 xf151 := fnOk_of Tryz.func151 (np := 4) (V := [0, 1, 2, 3, 8, 9, 5, 6, 7, 26, 10, 11, 20, 22, 23, 25, 35, 52, 12, 58, 65, 13, 14, 84, 16]) (ks := []) (by kernel_rfl)

/- (tipstaff/verify.way).to -/
def xf153 : XF := ⟨2, [0, 1, 4, 2],
  (.seq
 (.seq
 (.new (some 3) 132 (.var 0))
 (.new (some 2) 132 (.const zA23)))
 (.seq
 (.store 1 (.offp 0 (.var 3)) (.var 1) [])
 (.seq
 (.store 274 (.var 2) (.ld (some 274) (.var 3)) [])
 .ret))),
  [(.ld (some 274) (.var 2))]⟩
theorem okx_153 : FnOk Tryz.prog 2 377 153 xf153 := fnOk_of Tryz.func153 (np := 2) (V := [0, 1, 4, 2]) (ks := []) (by kernel_rfl)

/- (*tipstaff/verify.checker).call -/
def xf154 : XF := ⟨3, [0, 1, 2, 6, 7, 4, 5, 12, 8, 24, 30, 31, 9, 40, 10, 11, 61, 53, 65, 66, 81, 90, 99, 105, 106],
  (.seq
 (.seq
 (.new (some 5) 132 (.var 1))
 (.seq
 (.new (some 6) 32 (.var 2))
 (.seq
 (.set 3 (.const (.slice none 0 0)))
 (.set 4 (.const (.bool false))))))
 (.seq
 (.seq
 (.call (some 7) 234 [(.const (.int .i64 8))] [])
 (.seq
 (.new (some 8) 124 (.const zA9))
 (.store 11 (.var 8) (.var 7) [])))
 (.seq
 (.cond (.pick (.bin .eql (.ld none (.offp 4 (.var 6))) (.const (.int .i32 5))) (.const (.bool true)) (.bin .eql (.ld none (.offp 4 (.var 6))) (.const (.int .i32 7))))
 (.seq
 (.seq
 (.call (some 9) 235 [(.ld (some 273) (.offp 1 (.var 5))), (.ld (some 11) (.var 8))] [])
 (.store 273 (.offp 1 (.var 5)) (.var 9) []))
 (.seq
 (.seq
 (.call (some 10) 153 [(.ld (some 274) (.var 5)), (.bin .add (.ld none (.offp 0 (.var 5))) (.const (.int .i64 1)))] [])
 (.seq
 (.row (some 11) 132 1 (.upd 0 274 (.const zA23) (.var 10)))
 (.seq
 (.set 3 (.var 11))
 (.set 4 (.const (.bool true))))))
 .ret))
 .skip)
 (.seq
 (.set 12 (.ld none (.offp 7 (.ixArr 11 11 (.offp 0 (.offp 1 (.var 5))) (.const (.int .i64 1))))))
 (.seq
 (.seq
 (.call (some 13) 236 [(.var 0), (.var 12)] [])
 (.seq
 (.chk [(.proj 1 (.var 13)), (.proj 0 (.var 13))])
 (.seq
 (.new (some 14) 24 (.const (.agg (Array.replicate 4 (.int .i64 0)))))
 (.seq
 (.store 4 (.var 14) (.proj 0 (.var 13)) [])
 (.set 15 (.proj 1 (.var 13)))))))
 (.seq
 (.seq
 (.seq
 (.set 17 (.pick (.bin .neq (.ld none (.offp 0 (.ixArr 11 11 (.offp 0 (.offp 1 (.var 5))) (.const (.int .i64 1))))) (.const (.int .i64 4))) (.const (.bool true)) (.un .not (.var 15))))
 (.seq
 (.chk [(.pick (.var 17) (.const (.bool false)) (.ld (some 4) (.var 14))), (.pick (.var 17) (.const (.bool false)) (.var 12)), (.pick (.var 17) (.const (.bool false)) (.ld none (.offp 4 (.var 6)))), (.pick (.var 17) (.const (.bool false)) (.ld (some 273) (.offp 1 (.var 5)))), (.pick (.var 17) (.const (.bool false)) (.var 0))])
 (.cond (.pick (.var 17) (.const (.bool false)) (.const (.bool true)))
 (.call (some 16) 237 [(.var 0), (.ld (some 273) (.offp 1 (.var 5))), (.ld none (.offp 4 (.var 6))), (.var 12), (.ld (some 4) (.var 14))] [])
 (.clr [16]))))
 (.cond (.pick (.var 17) (.const (.bool true)) (.un .not (.var 16)))
 (.seq
 (.seq
 (.set 3 (.const (.slice none 0 0)))
 (.set 4 (.const (.bool false))))
 .ret)
 .skip))
 (.seq
 (.seq
 (.set 18 (.ld none (.offp 4 (.var 6))))
 (.block 0
 (.seq
 (.set 19 (.bin .eql (.var 18) (.const (.int .i32 1))))
 (.cond (.var 19)
 (.seq
 (.store 1 (.offp 6 (.nn (.var 0))) (.bin .add (.ld none (.offp 6 (.nn (.var 0)))) (.const (.int .i64 1))) [])
 (.seq
 (.chk [(.upd 8 1 (.upd 7 1 (.upd 0 1 (.const zA9) (.const (.int .i64 6))) (.var 12)) (.ld none (.offp 6 (.nn (.var 0)))))])
 (.store 11 (.var 8) (.upd 8 1 (.upd 7 1 (.upd 0 1 (.const zA9) (.const (.int .i64 6))) (.var 12)) (.ld none (.offp 6 (.nn (.var 0))))) [])))
 (.seq
 (.seq
 (.set 20 (.bin .eql (.var 18) (.const (.int .i32 88))))
 (.cond (.var 20)
 .skip
 (.set 20 (.bin .eql (.var 18) (.const (.int .i32 89))))))
 (.cond (.var 20)
 (.seq
 (.seq
 (.call (some 21) 238 [(.var 0), (.ld (some 273) (.offp 1 (.var 5))), (.const (.int .i64 2)), (.ld none (.offp 2 (.var 14)))] [])
 (.seq
 (.chk [(.proj 1 (.var 21))])
 (.seq
 (.store 273 (.offp 1 (.var 5)) (.proj 0 (.var 21)) [])
 (.set 15 (.proj 1 (.var 21))))))
 (.cond (.un .not (.var 15))
 (.seq
 (.seq
 (.set 3 (.const (.slice none 0 0)))
 (.set 4 (.const (.bool false))))
 .ret)
 .skip))
 .skip))))))
 (.seq
 (.seq
 (.call (some 22) 235 [(.ld (some 273) (.offp 1 (.var 5))), (.ld (some 11) (.var 8))] [])
 (.store 273 (.offp 1 (.var 5)) (.var 22) []))
 (.seq
 (.seq
 (.call (some 23) 153 [(.ld (some 274) (.var 5)), (.bin .add (.ld none (.offp 0 (.var 5))) (.const (.int .i64 1)))] [])
 (.seq
 (.row (some 24) 132 1 (.upd 0 274 (.const zA23) (.var 23)))
 (.seq
 (.set 3 (.var 24))
 (.set 4 (.const (.bool true))))))
 .ret))))))))),
  [(.var 3), (.var 4)]⟩
theorem okx_154 : FnOk Tryz.prog 2 377 154 xf154 := fnOk_of Tryz.func154 (np := 3) (V := [0, 1, 2, 6, 7, 4, 5, 12, 8, 24, 30, 31, 9, 40, 10, 11, 61, 53, 65, 66, 81, 90, 99, 105, 106]) (ks := []) (by kernel_rfl)

/- (*tipstaff/verify.checker).load -/
def xf155 : XF := ⟨4, [0, 1, 2, 3, 8, 9, 5, 6, 7, 10, 18, 33, 11, 12, 40, 47, 42, 44, 48, 51, 52, 55, 57, 58],
  (.seq
 (.seq
 (.new (some 6) 132 (.var 1))
 (.seq
 (.new (some 7) 32 (.var 2))
 (.seq
 (.new (some 8) 203 (.var 3))
 (.seq
 (.set 4 (.const (.slice none 0 0)))
 (.set 5 (.const (.bool false)))))))
 (.seq
 (.seq
 (.set 10 (.ld (some 11) (.ixArr 11 11 (.offp 0 (.offp 1 (.var 6))) (.ld none (.offp 2 (.var 7))))))
 (.seq
 (.new (some 9) 124 (.const zA9))
 (.store 11 (.var 9) (.var 10) [])))
 (.seq
 (.cond (.bin .eql (.ld none (.offp 0 (.var 9))) (.const (.int .i64 3)))
 (.seq
 (.seq
 (.call (some 11) 239 [(.ld (some 273) (.offp 1 (.var 6))), (.bin .add (.ld none (.offp 9 (.var 9))) (.conv .i64 (.ld none (.offp 3 (.var 7))))), (.ld none (.offp 2 (.var 8)))] [])
 (.seq
 (.chk [(.proj 1 (.var 11)), (.proj 0 (.var 11))])
 (.seq
 (.new (some 12) 124 (.const zA9))
 (.seq
 (.store 11 (.var 12) (.proj 0 (.var 11)) [])
 (.set 13 (.proj 1 (.var 11)))))))
 (.seq
 (.seq
 (.call (some 14) 230 [(.ld (some 274) (.var 6)), (.ld none (.offp 1 (.var 7))), (.ld (some 11) (.var 12)), (.const (.int .i64 1))] [])
 (.seq
 (.chk [(.var 13)])
 (.seq
 (.set 4 (.var 14))
 (.set 5 (.var 13)))))
 .ret))
 .skip)
 (.seq
 (.seq
 .skip
 (.seq
 (.set 16 (.ld (some 274) (.var 6)))
 (.seq
 (.set 17 (.ld none (.offp 1 (.var 7))))
 (.seq
 (.chk [(.var 0), (.ld none (.offp 2 (.var 8)))])
 (.seq
 (.set 19 (.ld (some 273) (.offp 1 (.var 6))))
 (.seq
 (.set 20 (.ld (some 11) (.var 9)))
 (.seq
 (.set 21 (.conv .i64 (.ld none (.offp 3 (.var 7)))))
 (.seq
 (.set 22 (.ld none (.offp 2 (.var 8))))
 (.seq
 (.call (some 15) 234 [(.ld none (.offp 2 (.var 8)))] [(.ld none (.offp 2 (.var 8))), (.ld none (.offp 3 (.var 7))), (.ld (some 11) (.var 9)), (.ld (some 273) (.offp 1 (.var 6))), (.ld none (.offp 1 (.var 7))), (.ld (some 274) (.var 6))])
 (.seq
 (.call (some 18) 230 [(.var 16), (.var 17), (.var 15), (.const (.int .i64 1))] [(.ld none (.offp 2 (.var 8))), (.ld none (.offp 3 (.var 7))), (.ld (some 11) (.var 9)), (.ld (some 273) (.offp 1 (.var 6)))])
 (.seq
 (.call (some 23) 240 [(.var 0), (.var 19), (.var 20), (.var 21), (.var 22)] [])
 (.seq
 (.set 4 (.var 18))
 (.set 5 (.var 23))))))))))))))
 .ret)))),
  [(.var 4), (.var 5)]⟩
theorem okx_155 : FnOk Tryz.prog 2 377 155 xf155 := fnOk_of Tryz.func155 (np := 4) (V := [0, 1, 2, 3, 8, 9, 5, 6, 7, 10, 18, 33, 11, 12, 40, 47, 42, 44, 48, 51, 52, 55, 57, 58]) (ks := []) (by kernel_rfl)

/- (*tipstaff/verify.checker).save -/
def xf156 : XF := ⟨5, [0, 1, 2, 3, 4, 10, 11, 6, 7, 8, 9, 12, 20, 28, 37, 38, 41, 54, 13, 14, 63, 64],
  (.seq
 (.seq
 (.new (some 7) 132 (.var 1))
 (.seq
 (.new (some 8) 32 (.var 2))
 (.seq
 (.new (some 9) 203 (.var 3))
 (.seq
 (.new (some 10) 124 (.var 4))
 (.seq
 (.set 5 (.const (.slice none 0 0)))
 (.set 6 (.const (.bool false))))))))
 (.seq
 (.seq
 (.set 12 (.ld (some 11) (.ixArr 11 11 (.offp 0 (.offp 1 (.var 7))) (.ld none (.offp 1 (.var 8))))))
 (.seq
 (.new (some 11) 124 (.const zA9))
 (.store 11 (.var 11) (.var 12) [])))
 (.seq
 (.seq
 (.call (some 13) 241 [(.var 0), (.ld (some 11) (.var 11)), (.conv .i64 (.ld none (.offp 3 (.var 8)))), (.ld none (.offp 2 (.var 9)))] [])
 (.cond (.un .not (.var 13))
 (.seq
 (.seq
 (.set 5 (.const (.slice none 0 0)))
 (.set 6 (.const (.bool false))))
 .ret)
 .skip))
 (.seq
 (.cond (.bin .eql (.ld none (.offp 0 (.var 11))) (.const (.int .i64 5)))
 (.seq
 (.seq
 .skip
 (.seq
 (.chk [(.bin .add (.ld none (.offp 0 (.var 7))) (.const (.int .i64 1))), (.ld (some 274) (.var 7))])
 (.seq
 (.set 16 (.bin .eql (.ld none (.offp 0 (.var 10))) (.const (.int .i64 1))))
 (.seq
 (.call (some 14) 153 [(.ld (some 274) (.var 7)), (.bin .add (.ld none (.offp 0 (.var 7))) (.const (.int .i64 1)))] [(.ld none (.offp 0 (.var 10)))])
 (.seq
 (.row (some 15) 132 1 (.upd 0 274 (.const zA23) (.var 14)))
 (.seq
 (.set 5 (.var 15))
 (.set 6 (.var 16))))))))
 .ret)
 .skip)
 (.seq
 (.seq
 (.call (some 17) 242 [(.ld (some 273) (.offp 1 (.var 7))), (.bin .add (.ld none (.offp 9 (.var 11))) (.conv .i64 (.ld none (.offp 3 (.var 8))))), (.ld none (.offp 2 (.var 9))), (.ld (some 11) (.var 10))] [])
 (.seq
 (.chk [(.proj 1 (.var 17)), (.proj 0 (.var 17))])
 (.seq
 (.new (some 18) 129 (.const zA22))
 (.seq
 (.store 273 (.var 18) (.proj 0 (.var 17)) [])
 (.set 19 (.proj 1 (.var 17)))))))
 (.seq
 (.store 273 (.offp 1 (.var 7)) (.ld (some 273) (.var 18)) [])
 (.seq
 (.seq
 (.call (some 20) 153 [(.ld (some 274) (.var 7)), (.bin .add (.ld none (.offp 0 (.var 7))) (.const (.int .i64 1)))] [])
 (.seq
 (.row (some 21) 132 1 (.upd 0 274 (.const zA23) (.var 20)))
 (.seq
 (.chk [(.var 19)])
 (.seq
 (.set 5 (.var 21))
 (.set 6 (.var 19))))))
 .ret))))))),
  [(.var 5), (.var 6)]⟩
theorem okx_156 : FnOk Tryz.prog 2 377 156 xf156 := fnOk_of Tryz.func156 (np := 5) (V := [0, 1, 2, 3, 4, 10, 11, 6, 7, 8, 9, 12, 20, 28, 37, 38, 41, 54, 13, 14, 63, 64]) (ks := []) (by kernel_rfl)

/- tipstaff/verify.second -/
def xf157 : XF := ⟨3, [0, 1, 2, 6, 3, 4, 17],
  (.seq
 (.seq
 (.new (some 4) 129 (.var 0))
 (.seq
 (.new (some 5) 32 (.var 1))
 (.new (some 3) 124 (.const zA9))))
 (.seq
 (.cond (.var 2)
 (.seq
 (.store 11 (.var 3) (.ld (some 11) (.ixArr 11 11 (.offp 0 (.var 4)) (.ld none (.offp 2 (.var 5))))) [])
 .ret)
 .skip)
 (.seq
 (.seq
 (.call (some 6) 228 [(.conv .u64 (.conv .i64 (.ld none (.offp 4 (.var 5)))))] [])
 (.store 11 (.var 3) (.var 6) []))
 .ret))),
  [(.ld (some 11) (.var 3))]⟩
theorem okx_157 : FnOk Tryz.prog 2 377 157 xf157 := fnOk_of Tryz.func157 (np := 3) (V := [0, 1, 2, 6, 3, 4, 17]) (ks := []) (by kernel_rfl)

/- (*tipstaff/verify.checker).atomic -/
def xf158 : XF := ⟨4, [0, 1, 2, 3, 8, 9, 5, 6, 7, 10, 17, 27, 36, 11, 42, 43, 54, 47],
  (.seq
 (.seq
 (.new (some 6) 132 (.var 1))
 (.seq
 (.new (some 7) 32 (.var 2))
 (.seq
 (.new (some 8) 203 (.var 3))
 (.seq
 (.set 4 (.const (.slice none 0 0)))
 (.set 5 (.const (.bool false)))))))
 (.seq
 (.seq
 (.set 10 (.ld (some 11) (.ixArr 11 11 (.offp 0 (.offp 1 (.var 6))) (.ld none (.offp 1 (.var 7))))))
 (.seq
 (.new (some 9) 124 (.const zA9))
 (.store 11 (.var 9) (.var 10) [])))
 (.seq
 (.seq
 (.call (some 11) 240 [(.var 0), (.ld (some 273) (.offp 1 (.var 6))), (.ld (some 11) (.var 9)), (.conv .i64 (.ld none (.offp 3 (.var 7)))), (.ld none (.offp 2 (.var 8)))] [])
 (.seq
 (.chk [(.pick (.var 11) (.ld none (.offp 2 (.var 8))) (.const (.bool false))), (.pick (.var 11) (.conv .i64 (.ld none (.offp 3 (.var 7)))) (.const (.bool false))), (.pick (.var 11) (.ld (some 11) (.var 9)) (.const (.bool false))), (.pick (.var 11) (.var 0) (.const (.bool false)))])
 (.seq
 (.cond (.pick (.var 11) (.const (.bool true)) (.const (.bool false)))
 (.call (some 12) 241 [(.var 0), (.ld (some 11) (.var 9)), (.conv .i64 (.ld none (.offp 3 (.var 7)))), (.ld none (.offp 2 (.var 8)))] [])
 (.clr [12]))
 (.set 13 (.pick (.var 11) (.var 12) (.const (.bool false)))))))
 (.seq
 (.seq
 .skip
 (.seq
 (.chk [(.var 13)])
 (.seq
 (.call (some 14) 153 [(.ld (some 274) (.var 6)), (.bin .add (.ld none (.offp 0 (.var 6))) (.const (.int .i64 1)))] [])
 (.seq
 (.chk [(.pick (.var 13) (.offp 2 (.var 7)) (.const (.bool false)))])
 (.seq
 (.cond (.pick (.var 13) (.const (.bool true)) (.const (.bool false)))
 (.set 17 (.ld none (.offp 2 (.var 7))))
 (.clr [17]))
 (.seq
 (.set 16 (.pick (.var 13) (.bin .eql (.ld none (.offp 0 (.ixArr 11 11 (.offp 0 (.offp 1 (.var 6))) (.var 17)))) (.const (.int .i64 1))) (.const (.bool false))))
 (.seq
 (.row (some 15) 132 1 (.upd 0 274 (.const zA23) (.var 14)))
 (.seq
 (.set 4 (.var 15))
 (.set 5 (.var 16))))))))))
 .ret)))),
  [(.var 4), (.var 5)]⟩
theorem okx_158 : FnOk Tryz.prog 2 377 158 xf158 := fnOk_of Tryz.func158 (np := 4) (V := [0, 1, 2, 3, 8, 9, 5, 6, 7, 10, 17, 27, 36, 11, 42, 43, 54, 47]) (ks := []) (by kernel_rfl)

/- (*tipstaff/verify.checker).wide -/
def xf159 : XF := ⟨3, [0, 1, 2, 6, 7, 4, 5, 8, 36, 32, 34, 37, 43, 9, 10, 53],
  (.seq
 (.seq
 (.new (some 5) 132 (.var 1))
 (.seq
 (.new (some 6) 32 (.var 2))
 (.seq
 (.set 3 (.const (.slice none 0 0)))
 (.set 4 (.const (.bool false))))))
 (.seq
 (.cond (.bin .eql (.ld none (.offp 2 (.var 6))) (.const (.int .u8 0)))
 (.seq
 (.seq
 .skip
 (.set 7 (.bin .or (.conv .u64 (.conv .u32 (.ld none (.offp 4 (.var 6))))) (.bin .shl (.conv .u64 (.conv .u32 (.ld none (.offp 4 (.ixSl 5 (.ld none (.offp 0 (.nn (.var 0)))) (.bin .add (.ld none (.offp 0 (.var 5))) (.const (.int .i64 1)))))))) (.const (.int .u64 32))))))
 (.seq
 (.seq
 .skip
 (.seq
 (.set 9 (.ld (some 274) (.var 5)))
 (.seq
 (.set 10 (.ld none (.offp 1 (.var 6))))
 (.seq
 (.call (some 8) 228 [(.var 7)] [(.ld none (.offp 1 (.var 6))), (.ld (some 274) (.var 5))])
 (.seq
 (.call (some 11) 230 [(.var 9), (.var 10), (.var 8), (.const (.int .i64 2))] [])
 (.seq
 (.set 3 (.var 11))
 (.set 4 (.const (.bool true)))))))))
 .ret))
 .skip)
 (.seq
 (.seq
 (.call (some 12) 236 [(.var 0), (.conv .i64 (.ld none (.offp 4 (.var 6))))] [])
 (.seq
 (.chk [(.proj 1 (.var 12)), (.proj 0 (.var 12))])
 (.seq
 (.new (some 13) 24 (.const (.agg (Array.replicate 4 (.int .i64 0)))))
 (.seq
 (.store 4 (.var 13) (.proj 0 (.var 12)) [])
 (.set 14 (.proj 1 (.var 12)))))))
 (.seq
 (.seq
 (.chk [(.upd 7 1 (.upd 0 1 (.const zA9) (.const (.int .i64 4))) (.conv .i64 (.ld none (.offp 4 (.var 6)))))])
 (.seq
 (.call (some 15) 230 [(.ld (some 274) (.var 5)), (.ld none (.offp 1 (.var 6))), (.upd 7 1 (.upd 0 1 (.const zA9) (.const (.int .i64 4))) (.conv .i64 (.ld none (.offp 4 (.var 6))))), (.const (.int .i64 2))] [])
 (.seq
 (.chk [(.var 14)])
 (.seq
 (.set 3 (.var 15))
 (.set 4 (.var 14))))))
 .ret)))),
  [(.var 3), (.var 4)]⟩
theorem okx_159 : FnOk Tryz.prog 2 377 159 xf159 := fnOk_of Tryz.func159 (np := 3) (V := [0, 1, 2, 6, 7, 4, 5, 8, 36, 32, 34, 37, 43, 9, 10, 53]) (ks := []) (by kernel_rfl)

/- tipstaff/insn.alu -/
def xf160 : XF := ⟨1, [0, 2, 3, 13],
  (.seq
 (.new (some 1) 203 (.const zA3))
 (.seq
 (.seq
 (.set 3 (.upd 4 1 (.upd 3 1 (.upd 2 1 (.upd 1 1 (.upd 0 1 (.const zA3) (.const (.int .i64 1))) (.conv .i64 (.bin .shr (.var 0) (.const (.int .u64 4))))) (.const (.int .i64 0))) (.bin .eql (.bin .and (.var 0) (.const (.int .u8 7))) (.const (.int .u8 7)))) (.bin .neq (.bin .and (.var 0) (.const (.int .u8 8))) (.const (.int .u8 0)))))
 (.seq
 (.new (some 2) 203 (.const zA3))
 (.store 5 (.var 2) (.var 3) [])))
 (.seq
 (.cond (.pick (.bin .gtr (.ld none (.offp 1 (.var 2))) (.const (.int .i64 12))) (.const (.bool true)) (.pick (.bin .eql (.ld none (.offp 1 (.var 2))) (.const (.int .i64 8))) (.ld none (.offp 4 (.var 2))) (.const (.bool false))))
 (.seq
 (.store 5 (.var 1) (.const zA3) [])
 .ret)
 .skip)
 (.seq
 (.store 5 (.var 1) (.ld (some 5) (.var 2)) [])
 .ret)))),
  [(.ld (some 5) (.var 1))]⟩
theorem okx_160 : FnOk Tryz.prog 2 377 160 xf160 := fnOk_of Tryz.func160 (np := 1) (V := [0, 2, 3, 13]) (ks := []) (by kernel_rfl)

/- tipstaff/insn.jump -/
def xf161 : XF := ⟨1, [0, 2, 3, 14, 4, 23, 29, 32, 35],
  (.seq
 (.new (some 1) 203 (.const zA3))
 (.seq
 (.seq
 (.set 3 (.upd 4 1 (.upd 3 1 (.upd 2 1 (.upd 1 1 (.upd 0 1 (.const zA3) (.const (.int .i64 2))) (.conv .i64 (.bin .shr (.var 0) (.const (.int .u64 4))))) (.const (.int .i64 0))) (.bin .eql (.bin .and (.var 0) (.const (.int .u8 7))) (.const (.int .u8 5)))) (.bin .neq (.bin .and (.var 0) (.const (.int .u8 8))) (.const (.int .u8 0)))))
 (.seq
 (.new (some 2) 203 (.const zA3))
 (.store 5 (.var 2) (.var 3) [])))
 (.seq
 (.set 4 (.pick (.ld none (.offp 3 (.var 2))) (.un .not (.ld none (.offp 4 (.var 2)))) (.const (.bool false))))
 (.seq
 (.seq
 (.set 5 (.ld none (.offp 1 (.var 2))))
 (.block 0
 (.seq
 (.set 6 (.bin .eql (.var 5) (.const (.int .i64 0))))
 (.cond (.var 6)
 (.seq
 (.chk [(.upd 0 1 (.const zA3) (.const (.int .i64 3)))])
 (.store 5 (.var 2) (.upd 0 1 (.const zA3) (.const (.int .i64 3))) []))
 (.seq
 (.set 7 (.bin .eql (.var 5) (.const (.int .i64 8))))
 (.cond (.var 7)
 (.seq
 (.chk [(.upd 0 1 (.const zA3) (.const (.int .i64 4)))])
 (.store 5 (.var 2) (.upd 0 1 (.const zA3) (.const (.int .i64 4))) []))
 (.seq
 (.set 8 (.bin .eql (.var 5) (.const (.int .i64 9))))
 (.cond (.var 8)
 (.seq
 (.chk [(.upd 0 1 (.const zA3) (.const (.int .i64 5)))])
 (.store 5 (.var 2) (.upd 0 1 (.const zA3) (.const (.int .i64 5))) []))
 (.seq
 (.cond (.bin .gtr (.ld none (.offp 1 (.var 2))) (.const (.int .i64 13)))
 (.seq
 (.store 5 (.var 1) (.const zA3) [])
 .ret)
 .skip)
 (.seq
 (.store 5 (.var 1) (.ld (some 5) (.var 2)) [])
 .ret))))))))))
 (.seq
 (.cond (.un .not (.var 4))
 (.seq
 (.store 5 (.var 1) (.const zA3) [])
 .ret)
 .skip)
 (.seq
 (.store 5 (.var 1) (.ld (some 5) (.var 2)) [])
 .ret)))))),
  [(.ld (some 5) (.var 1))]⟩
theorem okx_161 : FnOk Tryz.prog 2 377 161 xf161 := fnOk_of Tryz.func161 (np := 1) (V := [0, 2, 3, 14, 4, 23, 29, 32, 35]) (ks := []) (by kernel_rfl)

/- tipstaff/insn.memory -/
def xf162 : XF := ⟨1, [0, 2, 5, 3, 14, 4, 17, 25, 28],
  (.seq
 (.new (some 1) 203 (.const zA3))
 (.seq
 (.seq
 (.row (some 2) 3 4 (.upd 3 1 (.upd 2 1 (.upd 1 1 (.upd 0 1 (.const (.agg (Array.replicate 4 (.int .i64 0)))) (.const (.int .i64 4))) (.const (.int .i64 2))) (.const (.int .i64 1))) (.const (.int .i64 8))))
 (.seq
 (.set 4 (.upd 4 1 (.upd 2 1 (.upd 0 1 (.const zA3) (.const (.int .i64 7))) (.ld none (.ixSl 1 (.var 2) (.bin .and (.bin .shr (.var 0) (.const (.int .u64 3))) (.const (.int .u8 3)))))) (.bin .eql (.bin .and (.var 0) (.const (.int .u8 7))) (.const (.int .u8 3)))))
 (.seq
 (.new (some 3) 203 (.const zA3))
 (.store 5 (.var 3) (.var 4) []))))
 (.seq
 (.set 5 (.bin .shr (.var 0) (.const (.int .u64 5))))
 (.seq
 (.block 0
 (.seq
 (.block 3
 (.seq
 (.block 2
 (.seq
 (.block 1
 (.seq
 (.seq
 (.seq
 (.set 6 (.pick (.bin .eql (.var 5) (.const (.int .u8 3))) (.bin .eql (.bin .and (.var 0) (.const (.int .u8 7))) (.const (.int .u8 1))) (.const (.bool false))))
 (.cond (.var 6)
 (.exit 1)
 .skip))
 (.seq
 (.seq
 (.set 7 (.bin .eql (.var 5) (.const (.int .u8 3))))
 (.cond (.var 7)
 (.exit 2)
 .skip))
 (.seq
 (.set 8 (.pick (.pick (.bin .eql (.var 5) (.const (.int .u8 6))) (.ld none (.offp 4 (.var 3))) (.const (.bool false))) (.bin .geq (.ld none (.offp 2 (.var 3))) (.const (.int .i64 4))) (.const (.bool false))))
 (.cond (.var 8)
 (.exit 3)
 .skip))))
 (.exit 0)))
 (.store 1 (.offp 0 (.var 3)) (.const (.int .i64 6)) [])))
 (.seq
 (.seq
 (.store 5 (.var 1) (.ld (some 5) (.var 3)) [])
 .ret)
 (.exit 0))))
 (.seq
 (.seq
 (.store 1 (.offp 0 (.var 3)) (.const (.int .i64 8)) [])
 (.seq
 (.store 5 (.var 1) (.ld (some 5) (.var 3)) [])
 .ret))
 (.exit 0))))
 (.seq
 (.store 5 (.var 1) (.const zA3) [])
 .ret))))),
  [(.ld (some 5) (.var 1))]⟩
theorem okx_162 : FnOk Tryz.prog 2 377 162 xf162 := fnOk_of Tryz.func162 (np := 1) (V := [0, 2, 5, 3, 14, 4, 17, 25, 28]) (ks := []) (by kernel_rfl)

/- tipstaff/vm.number -/
def xf163 : XF := ⟨1, [0, 2],
  (.seq
 (.new (some 1) 138 (.const (.agg #[(.int .i64 0), (.int .u64 0), (.int .i64 0), (.pointer none)])))
 (.seq
 (.seq
 (.chk [(.upd 1 1 (.upd 0 1 (.const (.agg #[(.int .i64 0), (.int .u64 0), (.int .i64 0), (.pointer none)])) (.const (.int .i64 1))) (.var 0))])
 (.store 4 (.var 1) (.upd 1 1 (.upd 0 1 (.const (.agg #[(.int .i64 0), (.int .u64 0), (.int .i64 0), (.pointer none)])) (.const (.int .i64 1))) (.var 0)) []))
 .ret)),
  [(.ld (some 4) (.var 1))]⟩
theorem okx_163 : FnOk Tryz.prog 2 377 163 xf163 := fnOk_of Tryz.func163 (np := 1) (V := [0, 2]) (ks := []) (by kernel_rfl)

/- (*tipstaff/vm.machine).set -/
def xf164 : XF := ⟨3, [0, 1, 2, 6, 5],
  (.seq
 (.seq
 (.new (some 4) 138 (.var 2))
 (.set 3 (.const (.bool false))))
 (.seq
 (.cond (.bin .eql (.var 1) (.const (.int .u8 10)))
 (.seq
 (.set 3 (.const (.bool false)))
 .ret)
 .skip)
 (.seq
 (.seq
 .skip
 (.store 4 (.ixArr 11 4 (.offp 38 (.nn (.var 0))) (.var 1)) (.ld (some 4) (.var 4)) []))
 (.seq
 (.store 1 (.offp 82 (.nn (.var 0))) (.bin .add (.ld none (.offp 82 (.nn (.var 0)))) (.const (.int .i64 1))) [])
 (.seq
 (.set 3 (.const (.bool true)))
 .ret))))),
  [(.var 3)]⟩
theorem okx_164 : FnOk Tryz.prog 2 377 164 xf164 := fnOk_of Tryz.func164 (np := 3) (V := [0, 1, 2, 6, 5]) (ks := []) (by kernel_rfl)

/- tipstaff/scalar.Eval -/
def xf165 : XF := ⟨4, [0, 1, 2, 3, 8, 9, 18, 23, 31, 22],
  (.seq
 (.set 4 (.const (.int .u64 0)))
 (.seq
 (.cond (.un .not (.var 1))
 (.seq
 (.chk [(.conv .u64 (.conv .u32 (.var 3)))])
 (.seq
 (.set 2 (.conv .u64 (.conv .u32 (.var 2))))
 (.set 3 (.conv .u64 (.conv .u32 (.var 3))))))
 .skip)
 (.seq
 (.set 5 (.const (.int .u64 0)))
 (.seq
 (.seq
 (.set 6 (.var 0))
 (.block 0
 (.seq
 (.seq
 (.set 7 (.bin .eql (.var 6) (.const (.int .i64 6))))
 (.cond (.var 7)
 .skip
 (.seq
 (.set 7 (.bin .eql (.var 6) (.const (.int .i64 7))))
 (.cond (.var 7)
 .skip
 (.set 7 (.bin .eql (.var 6) (.const (.int .i64 12))))))))
 (.cond (.var 7)
 (.seq
 (.call (some 8) 243 [(.var 0), (.var 1), (.var 2), (.var 3)] [])
 (.set 5 (.var 8)))
 (.seq
 (.call (some 9) 244 [(.var 0), (.var 2), (.var 3)] [])
 (.set 5 (.var 9)))))))
 (.seq
 (.cond (.un .not (.var 1))
 (.set 5 (.conv .u64 (.conv .u32 (.var 5))))
 .skip)
 (.seq
 (.set 4 (.var 5))
 .ret)))))),
  [(.var 4)]⟩
theorem okx_165 : FnOk Tryz.prog 2 377 165 xf165 := fnOk_of Tryz.func165 (np := 4) (V := [0, 1, 2, 3, 8, 9, 18, 23, 31, 22]) (ks := []) (by kernel_rfl)

/- tipstaff/vm.onPlace -/
def xf166 : XF := ⟨3, [0, 1, 2, 6, 7, 4, 5, 8, 22, 17, 32, 38, 33, 49, 55, 50, 65],
  (.seq
 (.seq
 (.new (some 5) 138 (.var 1))
 (.seq
 (.new (some 6) 138 (.var 2))
 (.seq
 (.new (some 3) 138 (.const (.agg #[(.int .i64 0), (.int .u64 0), (.int .i64 0), (.pointer none)])))
 (.set 4 (.const (.bool false))))))
 (.seq
 (.block 0
 (.seq
 (.set 7 (.pick (.bin .eql (.var 0) (.const (.int .i64 11))) (.bin .neq (.ld none (.offp 0 (.var 6))) (.const (.int .i64 0))) (.const (.bool false))))
 (.cond (.var 7)
 (.seq
 (.seq
 (.store 4 (.var 3) (.ld (some 4) (.var 6)) [])
 (.set 4 (.const (.bool true))))
 .ret)
 (.seq
 (.seq
 (.chk [(.pick (.bin .eql (.var 0) (.const (.int .i64 0))) (.ld (some 4) (.var 5)) (.const (.bool false)))])
 (.seq
 (.cond (.pick (.bin .eql (.var 0) (.const (.int .i64 0))) (.const (.bool true)) (.const (.bool false)))
 (.call (some 8) 245 [(.ld (some 4) (.var 5))] [])
 (.clr [8]))
 (.set 9 (.pick (.pick (.bin .eql (.var 0) (.const (.int .i64 0))) (.var 8) (.const (.bool false))) (.bin .eql (.ld none (.offp 0 (.var 6))) (.const (.int .i64 1))) (.const (.bool false))))))
 (.cond (.var 9)
 (.seq
 (.seq
 (.call (some 10) 246 [(.ld (some 4) (.var 5)), (.ld none (.offp 1 (.var 6)))] [])
 (.seq
 (.store 4 (.var 3) (.var 10) [])
 (.set 4 (.const (.bool true)))))
 .ret)
 (.seq
 (.seq
 (.chk [(.pick (.bin .eql (.var 0) (.const (.int .i64 1))) (.ld (some 4) (.var 5)) (.const (.bool false)))])
 (.seq
 (.cond (.pick (.bin .eql (.var 0) (.const (.int .i64 1))) (.const (.bool true)) (.const (.bool false)))
 (.call (some 11) 245 [(.ld (some 4) (.var 5))] [])
 (.clr [11]))
 (.set 12 (.pick (.pick (.bin .eql (.var 0) (.const (.int .i64 1))) (.var 11) (.const (.bool false))) (.bin .eql (.ld none (.offp 0 (.var 6))) (.const (.int .i64 1))) (.const (.bool false))))))
 (.cond (.var 12)
 (.seq
 (.seq
 (.call (some 13) 246 [(.ld (some 4) (.var 5)), (.un .neg (.ld none (.offp 1 (.var 6))))] [])
 (.seq
 (.store 4 (.var 3) (.var 13) [])
 (.set 4 (.const (.bool true)))))
 .ret)
 (.seq
 (.seq
 (.chk [(.pick (.bin .eql (.var 0) (.const (.int .i64 0))) (.ld (some 4) (.var 6)) (.const (.bool false)))])
 (.seq
 (.cond (.pick (.bin .eql (.var 0) (.const (.int .i64 0))) (.const (.bool true)) (.const (.bool false)))
 (.call (some 14) 245 [(.ld (some 4) (.var 6))] [])
 (.clr [14]))
 (.set 15 (.pick (.pick (.bin .eql (.var 0) (.const (.int .i64 0))) (.var 14) (.const (.bool false))) (.bin .eql (.ld none (.offp 0 (.var 5))) (.const (.int .i64 1))) (.const (.bool false))))))
 (.cond (.var 15)
 (.seq
 (.seq
 (.call (some 16) 246 [(.ld (some 4) (.var 6)), (.ld none (.offp 1 (.var 5)))] [])
 (.seq
 (.store 4 (.var 3) (.var 16) [])
 (.set 4 (.const (.bool true)))))
 .ret)
 .skip)))))))))
 (.seq
 (.seq
 (.store 4 (.var 3) (.const (.agg #[(.int .i64 0), (.int .u64 0), (.int .i64 0), (.pointer none)])) [])
 (.set 4 (.const (.bool false))))
 .ret))),
  [(.ld (some 4) (.var 3)), (.var 4)]⟩
theorem okx_166 : FnOk Tryz.prog 2 377 166 xf166 := fnOk_of Tryz.func166 (np := 3) (V := [0, 1, 2, 6, 7, 4, 5, 8, 22, 17, 32, 38, 33, 49, 55, 50, 65]) (ks := []) (by kernel_rfl)

/- (*tipstaff/vm.machine).help -/
def xf168 : XF := ⟨2, [0, 1, 4, 5, 7, 8, 15, 16, 19, 21, 6, 25, 26, 30, 33, 39, 42, 46, 49, 55],
  (.seq
 (.seq
 (.new (some 2) 138 (.const (.agg #[(.int .i64 0), (.int .u64 0), (.int .i64 0), (.pointer none)])))
 (.set 3 (.const (.bool false))))
 (.seq
 (.seq
 (.set 4 (.var 1))
 (.block 0
 (.seq
 (.set 5 (.bin .eql (.var 4) (.const (.int .i32 5))))
 (.cond (.var 5)
 (.seq
 (.seq
 (.call (some 6) 163 [(.ld none (.offp 33 (.offp 1 (.nn (.var 0)))))] [])
 (.seq
 (.store 4 (.var 2) (.var 6) [])
 (.set 3 (.const (.bool true)))))
 .ret)
 (.seq
 (.set 7 (.bin .eql (.var 4) (.const (.int .i32 7))))
 (.cond (.var 7)
 (.seq
 (.seq
 (.call (some 8) 248 [(.var 0)] [])
 (.seq
 (.store 4 (.var 2) (.var 8) [])
 (.set 3 (.const (.bool true)))))
 .ret)
 .skip))))))
 (.seq
 (.seq
 (.call (some 9) 249 [(.var 0)] [])
 (.set 10 (.var 9)))
 (.seq
 (.cond (.isnil 0 false (.var 10))
 (.seq
 (.seq
 (.store 4 (.var 2) (.const (.agg #[(.int .i64 0), (.int .u64 0), (.int .i64 0), (.pointer none)])) [])
 (.set 3 (.const (.bool false))))
 .ret)
 .skip)
 (.seq
 (.seq
 (.set 11 (.var 1))
 (.block 1
 (.seq
 (.set 12 (.bin .eql (.var 11) (.const (.int .i32 1))))
 (.cond (.var 12)
 (.seq
 (.seq
 (.call (some 13) 250 [(.var 0), (.var 10)] [])
 (.seq
 (.chk [(.proj 1 (.var 13))])
 (.seq
 (.store 4 (.var 2) (.proj 0 (.var 13)) [])
 (.set 3 (.proj 1 (.var 13))))))
 .ret)
 (.seq
 (.seq
 (.set 14 (.bin .eql (.var 11) (.const (.int .i32 2))))
 (.cond (.var 14)
 .skip
 (.set 14 (.bin .eql (.var 11) (.const (.int .i32 3))))))
 (.cond (.var 14)
 (.seq
 (.seq
 (.call (some 15) 251 [(.var 0), (.var 1), (.var 10)] [])
 (.seq
 (.chk [(.proj 1 (.var 15))])
 (.seq
 (.store 4 (.var 2) (.proj 0 (.var 15)) [])
 (.set 3 (.proj 1 (.var 15))))))
 .ret)
 (.seq
 (.set 16 (.bin .eql (.var 11) (.const (.int .i32 87))))
 (.cond (.var 16)
 (.seq
 (.seq
 (.call (some 17) 252 [(.var 0), (.var 10)] [])
 (.seq
 (.chk [(.proj 1 (.var 17))])
 (.seq
 (.store 4 (.var 2) (.proj 0 (.var 17)) [])
 (.set 3 (.proj 1 (.var 17))))))
 .ret)
 (.seq
 (.seq
 (.set 18 (.bin .eql (.var 11) (.const (.int .i32 88))))
 (.cond (.var 18)
 .skip
 (.set 18 (.bin .eql (.var 11) (.const (.int .i32 89))))))
 (.cond (.var 18)
 (.seq
 (.seq
 (.call (some 19) 253 [(.var 0), (.var 1), (.var 10)] [])
 (.seq
 (.chk [(.proj 1 (.var 19))])
 (.seq
 (.store 4 (.var 2) (.proj 0 (.var 19)) [])
 (.set 3 (.proj 1 (.var 19))))))
 .ret)
 .skip))))))))))
 (.seq
 (.seq
 (.store 4 (.var 2) (.const (.agg #[(.int .i64 0), (.int .u64 0), (.int .i64 0), (.pointer none)])) [])
 (.set 3 (.const (.bool false))))
 .ret)))))),
  [(.ld (some 4) (.var 2)), (.var 3)]⟩
theorem okx_168 : FnOk Tryz.prog 2 377 168 xf168 := fnOk_of Tryz.func168 (np := 2) (V := [0, 1, 4, 5, 7, 8, 15, 16, 19, 21, 6, 25, 26, 30, 33, 39, 42, 46, 49, 55]) (ks := []) (by kernel_rfl)

/- (*tipstaff/region.Memory).Load -/
def xf169 : XF := ⟨4, [0, 1, 2, 3, 8, 9, 5, 14, 22, 10, 11, 12, 32, 58, 54, 63],
  (.seq
 (.seq
 (.new (some 6) 138 (.var 1))
 (.seq
 (.new (some 4) 138 (.const (.agg #[(.int .i64 0), (.int .u64 0), (.int .i64 0), (.pointer none)])))
 (.set 5 (.const (.int .i64 0)))))
 (.seq
 (.seq
 (.call (some 7) 254 [(.var 3)] [])
 (.cond (.un .not (.var 7))
 (.seq
 (.seq
 (.store 4 (.var 4) (.const (.agg #[(.int .i64 0), (.int .u64 0), (.int .i64 0), (.pointer none)])) [])
 (.set 5 (.const (.int .i64 14))))
 .ret)
 .skip))
 (.seq
 (.seq
 (.call (some 8) 255 [(.var 0), (.ld (some 4) (.var 6)), (.var 2), (.var 3)] [])
 (.seq
 (.chk [(.proj 2 (.var 8)), (.proj 1 (.var 8))])
 (.seq
 (.set 9 (.proj 0 (.var 8)))
 (.seq
 (.set 10 (.proj 1 (.var 8)))
 (.set 11 (.proj 2 (.var 8)))))))
 (.seq
 (.cond (.un .not (.var 11))
 (.seq
 (.seq
 (.store 4 (.var 4) (.const (.agg #[(.int .i64 0), (.int .u64 0), (.int .i64 0), (.pointer none)])) [])
 (.set 5 (.const (.int .i64 14))))
 .ret)
 .skip)
 (.seq
 (.seq
 (.call (some 12) 256 [(.ld (some 4) (.var 6)), (.var 10), (.var 3)] [])
 (.cond (.pick (.var 12) (.bin .neq (.ld none (.offp 0 (.ixArr 8 4 (.offp 160 (.nn (.var 0))) (.bin .quo (.var 10) (.const (.int .i64 8)))))) (.const (.int .i64 0))) (.const (.bool false)))
 (.seq
 (.seq
 (.store 4 (.var 4) (.ld (some 4) (.ixArr 8 4 (.offp 160 (.nn (.var 0))) (.bin .quo (.var 10) (.const (.int .i64 8))))) [])
 (.set 5 (.const (.int .i64 0))))
 .ret)
 .skip))
 (.seq
 (.seq
 (.seq
 (.set 14 (.bin .eql (.ld none (.offp 0 (.var 6))) (.const (.int .i64 3))))
 (.seq
 (.chk [(.pick (.var 14) (.var 3) (.const (.bool false))), (.pick (.var 14) (.var 10) (.const (.bool false))), (.pick (.var 14) (.var 0) (.const (.bool false)))])
 (.cond (.pick (.var 14) (.const (.bool true)) (.const (.bool false)))
 (.call (some 13) 257 [(.var 0), (.var 10), (.var 3)] [])
 (.clr [13]))))
 (.cond (.pick (.var 14) (.un .not (.var 13)) (.const (.bool false)))
 (.seq
 (.seq
 (.store 4 (.var 4) (.const (.agg #[(.int .i64 0), (.int .u64 0), (.int .i64 0), (.pointer none)])) [])
 (.set 5 (.const (.int .i64 14))))
 .ret)
 .skip))
 (.seq
 (.seq
 (.call (some 15) 258 [(.var 9)] [])
 (.seq
 (.chk [(.upd 1 1 (.upd 0 1 (.const (.agg #[(.int .i64 0), (.int .u64 0), (.int .i64 0), (.pointer none)])) (.const (.int .i64 1))) (.var 15))])
 (.seq
 (.store 4 (.var 4) (.upd 1 1 (.upd 0 1 (.const (.agg #[(.int .i64 0), (.int .u64 0), (.int .i64 0), (.pointer none)])) (.const (.int .i64 1))) (.var 15)) [])
 (.set 5 (.const (.int .i64 0))))))
 .ret))))))),
  [(.ld (some 4) (.var 4)), (.var 5)]⟩
theorem okx_169 : FnOk Tryz.prog 2 377 169 xf169 := fnOk_of Tryz.func169 (np := 4) (V := [0, 1, 2, 3, 8, 9, 5, 14, 22, 10, 11, 12, 32, 58, 54, 63]) (ks := []) (by kernel_rfl)

/- (*tipstaff/region.Memory).Save -/
def xf170 : XF := ⟨5, [0, 1, 2, 3, 4, 10, 6, 9, 15, 32, 11, 12, 13, 41, 57],
  (.seq
 (.seq
 (.new (some 6) 138 (.var 1))
 (.seq
 (.new (some 7) 138 (.var 4))
 (.set 5 (.const (.int .i64 0)))))
 (.seq
 (.seq
 (.call (some 8) 254 [(.var 3)] [])
 (.cond (.pick (.pick (.un .not (.var 8)) (.const (.bool true)) (.bin .leq (.ld none (.offp 0 (.var 7))) (.const (.int .i64 0)))) (.const (.bool true)) (.bin .gtr (.ld none (.offp 0 (.var 7))) (.const (.int .i64 5))))
 (.seq
 (.set 5 (.const (.int .i64 14)))
 .ret)
 .skip))
 (.seq
 (.seq
 (.call (some 9) 255 [(.var 0), (.ld (some 4) (.var 6)), (.var 2), (.var 3)] [])
 (.seq
 (.chk [(.proj 2 (.var 9)), (.proj 1 (.var 9))])
 (.seq
 (.set 10 (.proj 0 (.var 9)))
 (.seq
 (.set 11 (.proj 1 (.var 9)))
 (.set 12 (.proj 2 (.var 9)))))))
 (.seq
 (.seq
 (.seq
 (.chk [(.pick (.un .not (.var 12)) (.const (.bool false)) (.ld (some 4) (.var 6))), (.pick (.un .not (.var 12)) (.const (.bool false)) (.var 0))])
 (.cond (.pick (.un .not (.var 12)) (.const (.bool false)) (.const (.bool true)))
 (.call (some 13) 259 [(.var 0), (.ld (some 4) (.var 6))] [])
 (.clr [13])))
 (.cond (.pick (.un .not (.var 12)) (.const (.bool true)) (.un .not (.var 13)))
 (.seq
 (.set 5 (.const (.int .i64 14)))
 .ret)
 .skip))
 (.seq
 (.cond (.bin .eql (.ld none (.offp 0 (.var 7))) (.const (.int .i64 1)))
 (.seq
 (.call none 260 [(.var 0), (.ld (some 4) (.var 6)), (.var 10), (.var 11), (.ld none (.offp 1 (.var 7)))] [])
 (.seq
 (.set 5 (.const (.int .i64 0)))
 .ret))
 .skip)
 (.seq
 (.seq
 (.call (some 14) 256 [(.ld (some 4) (.var 6)), (.var 11), (.var 3)] [])
 (.cond (.un .not (.var 14))
 (.seq
 (.set 5 (.const (.int .i64 14)))
 .ret)
 .skip))
 (.seq
 (.call none 261 [(.var 0), (.var 11), (.var 3)] [])
 (.seq
 (.seq
 .skip
 (.store 4 (.ixArr 8 4 (.offp 160 (.nn (.var 0))) (.bin .quo (.var 11) (.const (.int .i64 8)))) (.ld (some 4) (.var 7)) []))
 (.seq
 (.set 5 (.const (.int .i64 0)))
 .ret))))))))),
  [(.var 5)]⟩
theorem okx_170 : FnOk Tryz.prog 2 377 170 xf170 := fnOk_of Tryz.func170 (np := 5) (V := [0, 1, 2, 3, 4, 10, 6, 9, 15, 32, 11, 12, 13, 41, 57]) (ks := []) (by kernel_rfl)
end Go.Proofs.YtmpgfgemnhbkhaaGreatDoor
