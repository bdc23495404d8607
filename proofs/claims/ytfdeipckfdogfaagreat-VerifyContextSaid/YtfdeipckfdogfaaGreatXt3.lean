/- The interpreter's functions, part 3: made by program (geny.py). -/
import Derived.Test.YtfdeipckfdogfaaGreatXz
import Derived.Test.YtfdeipckfdogfaaGreatProg
set_option maxRecDepth 100000
set_option linter.unusedVariables false
namespace Go.Proofs.YtfdeipckfdogfaaGreat
open Go.Eng
/- tipstaff/cfg.Next$1 -/
def xf101 : XF := ⟨2, [0, 1, 3],
  (.seq
 (.set 2 (.const (.bool false)))
 (.seq
 (.set 2 (.pick (.bin .lss (.var 0) (.const (.int .i64 0))) (.const (.bool true)) (.bin .geq (.var 0) (.len false (.ld none (.var 1))))))
 .ret)),
  [(.var 2)]⟩
theorem okx_101 : FnOk Tryz.prog 0 125 101 xf101 := fnOk_of Tryz.func101 (np := 2) (V := [0, 1, 3]) (ks := []) (by kernel_rfl)

/- tipstaff/tnum.Within -/
def xf102 : XF := ⟨2, [0, 1, 4, 2, 3],
  (.seq
 (.seq
 (.new (some 3) 71 (.var 0))
 (.seq
 (.new (some 4) 71 (.var 1))
 (.set 2 (.const (.bool false)))))
 (.seq
 (.set 2 (.pick (.bin .eql (.bin .andNot (.ld none (.offp 1 (.var 3))) (.ld none (.offp 1 (.var 4)))) (.const (.int .u64 0))) (.bin .eql (.bin .andNot (.ld none (.offp 0 (.var 3))) (.ld none (.offp 1 (.var 4)))) (.ld none (.offp 0 (.var 4)))) (.const (.bool false))))
 .ret)),
  [(.var 2)]⟩
theorem okx_102 : FnOk Tryz.prog 0 125 102 xf102 := fnOk_of Tryz.func102 (np := 2) (V := [0, 1, 4, 2, 3]) (ks := []) (by kernel_rfl)

/- tipstaff/tnum.Const -/
def xf103 : XF := ⟨1, [0, 2],
  (.seq
 (.new (some 1) 71 (.const (.agg #[(.int .u64 0), (.int .u64 0)])))
 (.seq
 (.seq
 (.chk [(.upd 0 1 (.const (.agg #[(.int .u64 0), (.int .u64 0)])) (.var 0))])
 (.store 2 (.var 1) (.upd 0 1 (.const (.agg #[(.int .u64 0), (.int .u64 0)])) (.var 0)) []))
 .ret)),
  [(.ld (some 2) (.var 1))]⟩
theorem okx_103 : FnOk Tryz.prog 0 125 103 xf103 := fnOk_of Tryz.func103 (np := 1) (V := [0, 2]) (ks := []) (by kernel_rfl)

/- tipstaff/scalar.Has -/
def xf104 : XF := ⟨2, [0, 1, 4, 2, 8],
  (.seq
 (.seq
 (.new (some 3) 73 (.var 0))
 (.set 2 (.const (.bool false))))
 (.seq
 (.seq
 (.call (some 4) 123 [(.ld (some 2) (.offp 0 (.var 3))), (.var 1)] [])
 (.set 2 (.pick (.pick (.pick (.pick (.var 4) (.bin .leq (.ld none (.offp 2 (.var 3))) (.var 1)) (.const (.bool false))) (.bin .leq (.var 1) (.ld none (.offp 3 (.var 3)))) (.const (.bool false))) (.bin .leq (.ld none (.offp 4 (.var 3))) (.conv .i64 (.var 1))) (.const (.bool false))) (.bin .leq (.conv .i64 (.var 1)) (.ld none (.offp 5 (.var 3)))) (.const (.bool false)))))
 .ret)),
  [(.var 2)]⟩
theorem okx_104 : FnOk Tryz.prog 0 125 104 xf104 := fnOk_of Tryz.func104 (np := 2) (V := [0, 1, 4, 2, 8]) (ks := []) (by kernel_rfl)

/- tipstaff/scalar.shift -/
def xf105 : XF := ⟨4, [0, 1, 2, 3, 8, 9, 16, 22, 28],
  (.seq
 (.set 4 (.const (.int .u64 0)))
 (.seq
 (.set 5 (.bin .rem (.var 3) (.const (.int .u64 64))))
 (.seq
 (.cond (.un .not (.var 1))
 (.set 5 (.bin .rem (.var 3) (.const (.int .u64 32))))
 .skip)
 (.seq
 (.block 0
 (.seq
 (.set 6 (.bin .eql (.var 0) (.const (.int .i64 6))))
 (.cond (.var 6)
 (.seq
 (.set 4 (.bin .shl (.var 2) (.var 5)))
 .ret)
 (.seq
 (.set 7 (.bin .eql (.var 0) (.const (.int .i64 7))))
 (.cond (.var 7)
 (.seq
 (.set 4 (.bin .shr (.var 2) (.var 5)))
 .ret)
 (.seq
 (.set 8 (.var 1))
 (.cond (.var 8)
 (.seq
 (.set 4 (.conv .u64 (.bin .shr (.conv .i64 (.var 2)) (.var 5))))
 .ret)
 .skip)))))))
 (.seq
 (.set 4 (.conv .u64 (.bin .shr (.conv .i32 (.var 2)) (.var 5))))
 .ret))))),
  [(.var 4)]⟩
theorem okx_105 : FnOk Tryz.prog 0 125 105 xf105 := fnOk_of Tryz.func105 (np := 4) (V := [0, 1, 2, 3, 8, 9, 16, 22, 28]) (ks := []) (by kernel_rfl)

/- tipstaff/scalar.plain -/
def xf106 : XF := ⟨3, [0, 1, 2, 6, 7, 8, 13, 18, 23, 28, 33, 37, 42, 45, 52],
  (.seq
 (.set 3 (.const (.int .u64 0)))
 (.seq
 (.seq
 (.set 4 (.var 0))
 (.block 0
 (.seq
 (.set 5 (.bin .eql (.var 4) (.const (.int .i64 0))))
 (.cond (.var 5)
 (.seq
 (.set 3 (.bin .add (.var 1) (.var 2)))
 .ret)
 (.seq
 (.set 6 (.bin .eql (.var 4) (.const (.int .i64 1))))
 (.cond (.var 6)
 (.seq
 (.set 3 (.bin .sub (.var 1) (.var 2)))
 .ret)
 (.seq
 (.set 7 (.bin .eql (.var 4) (.const (.int .i64 2))))
 (.cond (.var 7)
 (.seq
 (.set 3 (.bin .mul (.var 1) (.var 2)))
 .ret)
 (.seq
 (.set 8 (.bin .eql (.var 4) (.const (.int .i64 4))))
 (.cond (.var 8)
 (.seq
 (.set 3 (.bin .or (.var 1) (.var 2)))
 .ret)
 (.seq
 (.set 9 (.bin .eql (.var 4) (.const (.int .i64 5))))
 (.cond (.var 9)
 (.seq
 (.set 3 (.bin .and (.var 1) (.var 2)))
 .ret)
 (.seq
 (.set 10 (.bin .eql (.var 4) (.const (.int .i64 8))))
 (.cond (.var 10)
 (.seq
 (.set 3 (.un .neg (.var 1)))
 .ret)
 (.seq
 (.set 11 (.bin .eql (.var 4) (.const (.int .i64 10))))
 (.cond (.var 11)
 (.seq
 (.set 3 (.bin .xor (.var 1) (.var 2)))
 .ret)
 (.seq
 (.set 12 (.bin .eql (.var 4) (.const (.int .i64 11))))
 (.cond (.var 12)
 (.seq
 (.set 3 (.var 2))
 .ret)
 (.seq
 (.set 13 (.bin .eql (.var 4) (.const (.int .i64 3))))
 (.cond (.var 13)
 (.cond (.bin .neq (.var 2) (.const (.int .u64 0)))
 (.seq
 (.set 3 (.bin .quo (.var 1) (.var 2)))
 .ret)
 .skip)
 (.seq
 (.set 14 (.bin .eql (.var 4) (.const (.int .i64 9))))
 (.cond (.var 14)
 (.seq
 (.cond (.bin .neq (.var 2) (.const (.int .u64 0)))
 (.seq
 (.set 3 (.bin .rem (.var 1) (.var 2)))
 .ret)
 .skip)
 (.seq
 (.set 3 (.var 1))
 .ret))
 .skip))))))))))))))))))))))
 (.seq
 (.set 3 (.const (.int .u64 0)))
 .ret))),
  [(.var 3)]⟩
theorem okx_106 : FnOk Tryz.prog 0 125 106 xf106 := fnOk_of Tryz.func106 (np := 3) (V := [0, 1, 2, 6, 7, 8, 13, 18, 23, 28, 33, 37, 42, 45, 52]) (ks := []) (by kernel_rfl)

/- tipstaff/scalar.sum -/
def xf107 : XF := ⟨2, [0, 1, 4, 2, 3, 8, 5, 13, 20, 6, 7, 34, 38],
  (.seq
 (.seq
 (.new (some 3) 73 (.var 0))
 (.seq
 (.new (some 4) 73 (.var 1))
 (.new (some 2) 73 (.const zA2))))
 (.seq
 (.seq
 (.call (some 5) 92 [] [])
 (.seq
 (.new (some 6) 73 (.const zA2))
 (.store 6 (.var 6) (.var 5) [])))
 (.seq
 (.seq
 (.call (some 7) 124 [(.ld (some 2) (.offp 0 (.var 3))), (.ld (some 2) (.offp 0 (.var 4)))] [])
 (.store 2 (.offp 0 (.var 6)) (.var 7) []))
 (.seq
 (.seq
 (.seq
 (.add64 (some 8) (.ld none (.offp 3 (.var 3))) (.ld none (.offp 3 (.var 4))) (.const (.int .u64 0)) [])
 (.seq
 (.chk [(.proj 1 (.var 8))])
 (.seq
 (.set 9 (.proj 0 (.var 8)))
 (.set 10 (.proj 1 (.var 8))))))
 (.cond (.bin .eql (.var 10) (.const (.int .u64 0)))
 (.seq
 .skip
 (.seq
 (.chk [(.bin .add (.ld none (.offp 2 (.var 3))) (.ld none (.offp 2 (.var 4))))])
 (.seq
 (.set 11 (.bin .add (.ld none (.offp 3 (.var 3))) (.ld none (.offp 3 (.var 4)))))
 (.seq
 (.store 1 (.offp 2 (.var 6)) (.bin .add (.ld none (.offp 2 (.var 3))) (.ld none (.offp 2 (.var 4)))) [(.ld none (.offp 3 (.var 4))), (.ld none (.offp 3 (.var 3)))])
 (.store 1 (.offp 3 (.var 6)) (.var 11) [])))))
 .skip))
 (.seq
 (.seq
 (.call (some 12) 115 [(.ld (some 6) (.var 6))] [])
 (.store 6 (.var 2) (.var 12) []))
 .ret))))),
  [(.ld (some 6) (.var 2))]⟩
theorem okx_107 : FnOk Tryz.prog 0 125 107 xf107 := fnOk_of Tryz.func107 (np := 2) (V := [0, 1, 4, 2, 3, 8, 5, 13, 20, 6, 7, 34, 38]) (ks := []) (by kernel_rfl)

/- tipstaff/scalar.difference -/
def xf108 : XF := ⟨2, [0, 1, 4, 2, 3, 6, 5, 11, 27, 31],
  (.seq
 (.seq
 (.new (some 3) 73 (.var 0))
 (.seq
 (.new (some 4) 73 (.var 1))
 (.new (some 2) 73 (.const zA2))))
 (.seq
 (.seq
 (.call (some 5) 92 [] [])
 (.seq
 (.new (some 6) 73 (.const zA2))
 (.store 6 (.var 6) (.var 5) [])))
 (.seq
 (.seq
 (.call (some 7) 126 [(.ld (some 2) (.offp 0 (.var 3))), (.ld (some 2) (.offp 0 (.var 4)))] [])
 (.store 2 (.offp 0 (.var 6)) (.var 7) []))
 (.seq
 (.cond (.bin .geq (.ld none (.offp 2 (.var 3))) (.ld none (.offp 3 (.var 4))))
 (.seq
 .skip
 (.seq
 (.chk [(.bin .sub (.ld none (.offp 2 (.var 3))) (.ld none (.offp 3 (.var 4))))])
 (.seq
 (.set 8 (.bin .sub (.ld none (.offp 3 (.var 3))) (.ld none (.offp 2 (.var 4)))))
 (.seq
 (.store 1 (.offp 2 (.var 6)) (.bin .sub (.ld none (.offp 2 (.var 3))) (.ld none (.offp 3 (.var 4)))) [(.ld none (.offp 2 (.var 4))), (.ld none (.offp 3 (.var 3)))])
 (.store 1 (.offp 3 (.var 6)) (.var 8) [])))))
 .skip)
 (.seq
 (.seq
 (.call (some 9) 115 [(.ld (some 6) (.var 6))] [])
 (.store 6 (.var 2) (.var 9) []))
 .ret))))),
  [(.ld (some 6) (.var 2))]⟩
theorem okx_108 : FnOk Tryz.prog 0 125 108 xf108 := fnOk_of Tryz.func108 (np := 2) (V := [0, 1, 4, 2, 3, 6, 5, 11, 27, 31]) (ks := []) (by kernel_rfl)

/- tipstaff/scalar.product -/
def xf109 : XF := ⟨2, [0, 1, 4, 2, 3, 8, 5, 13, 20, 6, 7, 34, 38],
  (.seq
 (.seq
 (.new (some 3) 73 (.var 0))
 (.seq
 (.new (some 4) 73 (.var 1))
 (.new (some 2) 73 (.const zA2))))
 (.seq
 (.seq
 (.call (some 5) 92 [] [])
 (.seq
 (.new (some 6) 73 (.const zA2))
 (.store 6 (.var 6) (.var 5) [])))
 (.seq
 (.seq
 (.call (some 7) 127 [(.ld (some 2) (.offp 0 (.var 3))), (.ld (some 2) (.offp 0 (.var 4)))] [])
 (.store 2 (.offp 0 (.var 6)) (.var 7) []))
 (.seq
 (.seq
 (.seq
 (.call (some 8) 128 [(.ld none (.offp 3 (.var 3))), (.ld none (.offp 3 (.var 4)))] [])
 (.seq
 (.chk [(.proj 1 (.var 8))])
 (.seq
 (.set 9 (.proj 0 (.var 8)))
 (.set 10 (.proj 1 (.var 8))))))
 (.cond (.bin .eql (.var 9) (.const (.int .u64 0)))
 (.seq
 .skip
 (.seq
 (.chk [(.bin .mul (.ld none (.offp 2 (.var 3))) (.ld none (.offp 2 (.var 4))))])
 (.seq
 (.set 11 (.bin .mul (.ld none (.offp 3 (.var 3))) (.ld none (.offp 3 (.var 4)))))
 (.seq
 (.store 1 (.offp 2 (.var 6)) (.bin .mul (.ld none (.offp 2 (.var 3))) (.ld none (.offp 2 (.var 4)))) [(.ld none (.offp 3 (.var 4))), (.ld none (.offp 3 (.var 3)))])
 (.store 1 (.offp 3 (.var 6)) (.var 11) [])))))
 .skip))
 (.seq
 (.seq
 (.call (some 12) 115 [(.ld (some 6) (.var 6))] [])
 (.store 6 (.var 2) (.var 12) []))
 .ret))))),
  [(.ld (some 6) (.var 2))]⟩
theorem okx_109 : FnOk Tryz.prog 0 125 109 xf109 := fnOk_of Tryz.func109 (np := 2) (V := [0, 1, 4, 2, 3, 8, 5, 13, 20, 6, 7, 34, 38]) (ks := []) (by kernel_rfl)

/- tipstaff/scalar.bitwise -/
def xf110 : XF := ⟨3, [0, 1, 2, 6, 4, 5, 8, 7, 9, 16, 22, 30, 36, 14, 45],
  (.seq
 (.seq
 (.new (some 4) 73 (.var 1))
 (.seq
 (.new (some 5) 73 (.var 2))
 (.new (some 3) 73 (.const zA2))))
 (.seq
 (.seq
 (.call (some 6) 92 [] [])
 (.seq
 (.new (some 7) 73 (.const zA2))
 (.store 6 (.var 7) (.var 6) [])))
 (.seq
 (.seq
 (.set 8 (.var 0))
 (.block 0
 (.seq
 (.set 9 (.bin .eql (.var 8) (.const (.int .i64 5))))
 (.cond (.var 9)
 (.seq
 (.seq
 (.call (some 10) 129 [(.ld (some 2) (.offp 0 (.var 4))), (.ld (some 2) (.offp 0 (.var 5)))] [])
 (.store 2 (.offp 0 (.var 7)) (.var 10) []))
 (.store 1 (.offp 3 (.var 7)) (.mn (.ld none (.offp 3 (.var 4))) (.ld none (.offp 3 (.var 5)))) []))
 (.seq
 (.set 11 (.bin .eql (.var 8) (.const (.int .i64 4))))
 (.cond (.var 11)
 (.seq
 (.seq
 (.call (some 12) 130 [(.ld (some 2) (.offp 0 (.var 4))), (.ld (some 2) (.offp 0 (.var 5)))] [])
 (.store 2 (.offp 0 (.var 7)) (.var 12) []))
 (.store 1 (.offp 2 (.var 7)) (.mx (.ld none (.offp 2 (.var 4))) (.ld none (.offp 2 (.var 5)))) []))
 (.seq
 (.call (some 13) 131 [(.ld (some 2) (.offp 0 (.var 4))), (.ld (some 2) (.offp 0 (.var 5)))] [])
 (.store 2 (.offp 0 (.var 7)) (.var 13) []))))))))
 (.seq
 (.seq
 (.call (some 14) 115 [(.ld (some 6) (.var 7))] [])
 (.store 6 (.var 3) (.var 14) []))
 .ret)))),
  [(.ld (some 6) (.var 3))]⟩
theorem okx_110 : FnOk Tryz.prog 0 125 110 xf110 := fnOk_of Tryz.func110 (np := 3) (V := [0, 1, 2, 6, 4, 5, 8, 7, 9, 16, 22, 30, 36, 14, 45]) (ks := []) (by kernel_rfl)

/- tipstaff/scalar.quotient -/
def xf111 : XF := ⟨3, [0, 1, 2, 6, 4, 5, 7, 32, 33, 38, 39, 49, 52],
  (.seq
 (.seq
 (.new (some 4) 73 (.var 1))
 (.seq
 (.new (some 5) 73 (.var 2))
 (.new (some 3) 73 (.const zA2))))
 (.seq
 (.block 0
 (.seq
 (.set 6 (.pick (.pick (.bin .eql (.var 0) (.const (.int .i64 3))) (.bin .gtr (.ld none (.offp 2 (.var 5))) (.const (.int .u64 0))) (.const (.bool false))) (.bin .geq (.ld none (.offp 3 (.var 5))) (.ld none (.offp 2 (.var 5)))) (.const (.bool false))))
 (.cond (.var 6)
 (.seq
 (.seq
 .skip
 (.seq
 (.call (some 7) 114 [(.bin .quo (.ld none (.offp 2 (.var 4))) (.ld none (.offp 3 (.var 5)))), (.bin .quo (.ld none (.offp 3 (.var 4))) (.ld none (.offp 2 (.var 5))))] [])
 (.store 6 (.var 3) (.var 7) [])))
 .ret)
 (.seq
 (.set 8 (.bin .eql (.var 0) (.const (.int .i64 3))))
 (.cond (.var 8)
 (.seq
 (.seq
 (.call (some 9) 114 [(.const (.int .u64 0)), (.ld none (.offp 3 (.var 4)))] [])
 (.store 6 (.var 3) (.var 9) []))
 .ret)
 (.seq
 (.set 10 (.bin .gtr (.ld none (.offp 2 (.var 5))) (.const (.int .u64 0))))
 (.cond (.var 10)
 (.seq
 (.seq
 (.call (some 11) 114 [(.const (.int .u64 0)), (.mn (.ld none (.offp 3 (.var 4))) (.bin .sub (.ld none (.offp 3 (.var 5))) (.const (.int .u64 1))))] [])
 (.store 6 (.var 3) (.var 11) []))
 .ret)
 .skip)))))))
 (.seq
 (.seq
 (.call (some 12) 114 [(.const (.int .u64 0)), (.ld none (.offp 3 (.var 4)))] [])
 (.store 6 (.var 3) (.var 12) []))
 .ret))),
  [(.ld (some 6) (.var 3))]⟩
theorem okx_111 : FnOk Tryz.prog 0 125 111 xf111 := fnOk_of Tryz.func111 (np := 3) (V := [0, 1, 2, 6, 4, 5, 7, 32, 33, 38, 39, 49, 52]) (ks := []) (by kernel_rfl)

/- tipstaff/scalar.moved -/
def xf112 : XF := ⟨4, [0, 1, 2, 3, 8, 6, 7, 9, 13, 15, 27, 36],
  (.seq
 (.seq
 (.new (some 5) 73 (.var 2))
 (.seq
 (.new (some 6) 73 (.var 3))
 (.new (some 4) 73 (.const zA2))))
 (.seq
 (.set 7 (.const (.int .i64 64)))
 (.seq
 (.cond (.un .not (.var 1))
 (.set 7 (.const (.int .i64 32)))
 .skip)
 (.seq
 (.seq
 (.call (some 8) 84 [(.ld (some 6) (.var 6))] [])
 (.cond (.un .not (.var 8))
 (.seq
 (.seq
 (.call (some 9) 92 [] [])
 (.store 6 (.var 4) (.var 9) []))
 .ret)
 .skip))
 (.seq
 (.cond (.pick (.pick (.bin .eql (.var 0) (.const (.int .i64 12))) (.un .not (.var 1)) (.const (.bool false))) (.bin .gtr (.ld none (.offp 3 (.var 5))) (.const (.int .u64 2147483647))) (.const (.bool false)))
 (.seq
 (.seq
 (.call (some 10) 114 [(.const (.int .u64 0)), (.const (.int .u64 4294967295))] [])
 (.store 6 (.var 4) (.var 10) []))
 .ret)
 .skip)
 (.seq
 (.seq
 .skip
 (.seq
 (.call (some 11) 132 [(.var 0), (.conv .i64 (.bin .rem (.ld none (.offp 2 (.var 6))) (.conv .u64 (.var 7)))), (.ld (some 6) (.var 5))] [])
 (.store 6 (.var 4) (.var 11) [])))
 .ret)))))),
  [(.ld (some 6) (.var 4))]⟩
theorem okx_112 : FnOk Tryz.prog 0 125 112 xf112 := fnOk_of Tryz.func112 (np := 4) (V := [0, 1, 2, 3, 8, 6, 7, 9, 13, 15, 27, 36]) (ks := []) (by kernel_rfl)

/- tipstaff/tnum.Low -/
def xf113 : XF := ⟨2, [0, 1, 4, 2, 6, 7, 5, 23, 28],
  (.seq
 (.seq
 (.new (some 3) 71 (.var 0))
 (.new (some 2) 71 (.const (.agg #[(.int .u64 0), (.int .u64 0)]))))
 (.seq
 (.seq
 (.set 4 (.var 1))
 (.block 0
 (.seq
 (.seq
 (.set 5 (.bin .eql (.var 4) (.const (.int .i64 1))))
 (.cond (.var 5)
 .skip
 (.seq
 (.set 5 (.bin .eql (.var 4) (.const (.int .i64 2))))
 (.cond (.var 5)
 .skip
 (.set 5 (.bin .eql (.var 4) (.const (.int .i64 4))))))))
 (.cond (.var 5)
 (.seq
 (.set 6 (.bin .sub (.bin .shl (.const (.int .u64 1)) (.bin .mul (.const (.int .i64 8)) (.var 1))) (.const (.int .u64 1))))
 (.seq
 (.seq
 (.call (some 7) 133 [(.bin .and (.ld none (.offp 0 (.var 3))) (.var 6)), (.bin .and (.ld none (.offp 1 (.var 3))) (.var 6))] [])
 (.store 2 (.var 2) (.var 7) []))
 .ret))
 .skip))))
 (.seq
 (.seq
 (.call (some 8) 133 [(.ld none (.offp 0 (.var 3))), (.ld none (.offp 1 (.var 3)))] [])
 (.store 2 (.var 2) (.var 8) []))
 .ret))),
  [(.ld (some 2) (.var 2))]⟩
theorem okx_113 : FnOk Tryz.prog 0 125 113 xf113 := fnOk_of Tryz.func113 (np := 2) (V := [0, 1, 4, 2, 6, 7, 5, 23, 28]) (ks := []) (by kernel_rfl)

/- tipstaff/scalar.between -/
def xf114 : XF := ⟨2, [0, 1, 4, 6, 5, 12],
  (.seq
 (.new (some 2) 73 (.const zA2))
 (.seq
 (.seq
 (.call (some 3) 92 [] [])
 (.seq
 (.new (some 4) 73 (.const zA2))
 (.store 6 (.var 4) (.var 3) [])))
 (.seq
 (.seq
 (.chk [(.var 1)])
 (.seq
 (.store 1 (.offp 2 (.var 4)) (.var 0) [])
 (.store 1 (.offp 3 (.var 4)) (.var 1) [])))
 (.seq
 (.seq
 (.call (some 5) 115 [(.ld (some 6) (.var 4))] [])
 (.store 6 (.var 2) (.var 5) []))
 .ret)))),
  [(.ld (some 6) (.var 2))]⟩
theorem okx_114 : FnOk Tryz.prog 0 125 114 xf114 := fnOk_of Tryz.func114 (np := 2) (V := [0, 1, 4, 6, 5, 12]) (ks := []) (by kernel_rfl)

/- tipstaff/scalar.settled -/
def xf115 : XF := ⟨1, [0, 2, 1, 7, 3, 4],
  (.seq
 (.seq
 (.new (some 2) 73 (.var 0))
 (.new (some 1) 73 (.const zA2)))
 (.seq
 (.seq
 (.call (some 3) 134 [(.ld (some 6) (.var 2))] [])
 (.seq
 (.chk [(.proj 1 (.var 3)), (.proj 0 (.var 3))])
 (.seq
 (.new (some 4) 73 (.const zA2))
 (.seq
 (.store 6 (.var 4) (.proj 0 (.var 3)) [])
 (.set 5 (.proj 1 (.var 3)))))))
 (.seq
 (.cond (.un .not (.var 5))
 (.seq
 (.store 6 (.var 1) (.ld (some 6) (.var 2)) [])
 .ret)
 .skip)
 (.seq
 (.store 6 (.var 1) (.ld (some 6) (.var 4)) [])
 .ret)))),
  [(.ld (some 6) (.var 1))]⟩
theorem okx_115 : FnOk Tryz.prog 0 125 115 xf115 := fnOk_of Tryz.func115 (np := 1) (V := [0, 2, 1, 7, 3, 4]) (ks := []) (by kernel_rfl)

/- tipstaff/scalar.ofBits -/
def xf116 : XF := ⟨1, [0, 2, 1, 4, 3, 8],
  (.seq
 (.seq
 (.new (some 2) 71 (.var 0))
 (.new (some 1) 73 (.const zA2)))
 (.seq
 (.seq
 (.call (some 3) 92 [] [])
 (.seq
 (.new (some 4) 73 (.const zA2))
 (.store 6 (.var 4) (.var 3) [])))
 (.seq
 (.store 2 (.offp 0 (.var 4)) (.ld (some 2) (.var 2)) [])
 (.seq
 (.seq
 (.call (some 5) 115 [(.ld (some 6) (.var 4))] [])
 (.store 6 (.var 1) (.var 5) []))
 .ret)))),
  [(.ld (some 6) (.var 1))]⟩
theorem okx_116 : FnOk Tryz.prog 0 125 116 xf116 := fnOk_of Tryz.func116 (np := 1) (V := [0, 2, 1, 4, 3, 8]) (ks := []) (by kernel_rfl)

/- tipstaff/verify.alone -/
def xf117 : XF := ⟨1, [0, 2, 1],
  (.seq
 (.seq
 (.new (some 2) 73 (.var 0))
 (.set 1 (.const (.bool false))))
 (.seq
 (.set 1 (.bin .eql (.ld none (.offp 4 (.var 2))) (.ld none (.offp 5 (.var 2)))))
 .ret)),
  [(.var 1)]⟩
theorem okx_117 : FnOk Tryz.prog 0 125 117 xf117 := fnOk_of Tryz.func117 (np := 1) (V := [0, 2, 1]) (ks := []) (by kernel_rfl)

/- tipstaff/branch.refine -/
def xf118 : XF := ⟨4, [0, 1, 2, 3, 8, 9, 6, 17, 10, 11, 25, 12, 13, 14, 35, 30, 37, 43, 47, 55, 58, 62, 66, 69],
  (.seq
 (.seq
 (.new (some 6) 175 (.var 2))
 (.seq
 (.new (some 4) 175 (.const zA5))
 (.set 5 (.const (.bool false)))))
 (.seq
 (.seq
 (.call (some 7) 135 [(.ld (some 12) (.var 6))] [])
 (.seq
 (.chk [(.proj 1 (.var 7)), (.proj 0 (.var 7))])
 (.seq
 (.new (some 8) 175 (.const zA5))
 (.seq
 (.store 12 (.var 8) (.proj 0 (.var 7)) [])
 (.set 9 (.proj 1 (.var 7)))))))
 (.seq
 (.cond (.un .not (.var 9))
 (.seq
 (.seq
 (.store 12 (.var 4) (.const zA5) [])
 (.set 5 (.const (.bool false))))
 .ret)
 .skip)
 (.seq
 (.seq
 (.seq
 (.call (some 10) 136 [(.ld (some 12) (.var 8))] [])
 (.seq
 (.chk [(.proj 2 (.var 10)), (.proj 1 (.var 10))])
 (.seq
 (.set 11 (.proj 0 (.var 10)))
 (.seq
 (.set 12 (.proj 1 (.var 10)))
 (.set 13 (.proj 2 (.var 10)))))))
 (.cond (.var 13)
 (.seq
 (.seq
 .skip
 (.seq
 (.set 15 (.ld (some 12) (.var 8)))
 (.seq
 (.chk [(.var 3)])
 (.seq
 (.call (some 14) 137 [(.var 0), (.var 1), (.var 11), (.var 12)] [(.ld (some 12) (.var 8))])
 (.seq
 (.set 16 (.eqx false .bool (.var 14) (.var 3)))
 (.seq
 (.store 12 (.var 4) (.var 15) [(.eqx false .bool (.var 14) (.var 3))])
 (.set 5 (.var 16))))))))
 .ret)
 .skip))
 (.seq
 (.seq
 (.seq
 (.chk [(.pick (.un .not (.var 1)) (.ld (some 12) (.var 8)) (.const (.bool false))), (.pick (.un .not (.var 1)) (.var 0) (.const (.bool false)))])
 (.cond (.pick (.un .not (.var 1)) (.const (.bool true)) (.const (.bool false)))
 (.call (some 17) 138 [(.var 0), (.ld (some 12) (.var 8))] [])
 (.clr [17])))
 (.cond (.pick (.un .not (.var 1)) (.un .not (.var 17)) (.const (.bool false)))
 (.seq
 (.seq
 (.store 12 (.var 4) (.ld (some 12) (.var 8)) [])
 (.set 5 (.const (.bool true))))
 .ret)
 .skip))
 (.seq
 (.block 0
 (.seq
 (.set 18 (.pick (.bin .eql (.var 0) (.const (.int .i64 4))) (.un .not (.var 3)) (.const (.bool false))))
 (.cond (.var 18)
 (.seq
 (.seq
 (.call (some 19) 139 [(.ld (some 12) (.var 8))] [])
 (.seq
 (.chk [(.proj 1 (.var 19))])
 (.seq
 (.store 12 (.var 4) (.proj 0 (.var 19)) [])
 (.set 5 (.proj 1 (.var 19))))))
 .ret)
 (.seq
 (.set 20 (.bin .eql (.var 0) (.const (.int .i64 4))))
 (.cond (.var 20)
 (.seq
 (.seq
 (.store 12 (.var 4) (.ld (some 12) (.var 8)) [])
 (.set 5 (.const (.bool true))))
 .ret)
 (.seq
 (.set 21 (.un .not (.var 3)))
 (.cond (.var 21)
 (.seq
 (.call (some 22) 140 [(.var 0)] [])
 (.set 0 (.var 22)))
 .skip)))))))
 (.seq
 (.seq
 (.call (some 23) 141 [(.var 0), (.ld (some 12) (.var 8))] [])
 (.seq
 (.chk [(.proj 1 (.var 23))])
 (.seq
 (.store 12 (.var 4) (.proj 0 (.var 23)) [])
 (.set 5 (.proj 1 (.var 23))))))
 .ret))))))),
  [(.ld (some 12) (.var 4)), (.var 5)]⟩
theorem okx_118 : FnOk Tryz.prog 0 125 118 xf118 := fnOk_of Tryz.func118 (np := 4) (V := [0, 1, 2, 3, 8, 9, 6, 17, 10, 11, 25, 12, 13, 14, 35, 30, 37, 43, 47, 55, 58, 62, 66, 69]) (ks := []) (by kernel_rfl)

/- tipstaff/tnum.Any -/
def xf119 : XF := ⟨0, [0],
  (.seq
 (.new (some 0) 71 (.const (.agg #[(.int .u64 0), (.int .u64 0)])))
 (.seq
 (.seq
 (.chk [(.upd 1 1 (.const (.agg #[(.int .u64 0), (.int .u64 0)])) (.const (.int .u64 18446744073709551615)))])
 (.store 2 (.var 0) (.upd 1 1 (.const (.agg #[(.int .u64 0), (.int .u64 0)])) (.const (.int .u64 18446744073709551615))) []))
 .ret)),
  [(.ld (some 2) (.var 0))]⟩
theorem okx_119 : FnOk Tryz.prog 0 125 119 xf119 := fnOk_of Tryz.func119 (np := 0) (V := [0]) (ks := []) (by kernel_rfl)

/- slices.IndexFunc[[]int,int] -/
def xf120 : XF := ⟨2, [0, 1, 4, 8, 7, 5, 16],
  (.seq
 (.set 2 (.const (.int .i64 0)))
 (.seq
 (.seq
 (.seq
 (.set 4 (.len false (.var 0)))
 (.set 3 (.const (.int .i64 0))))
 (.block 0
 (.loop [0, 1, 3, 4]
 (.seq
 (.cond (.bin .lss (.var 3) (.var 4))
 .skip
 (.exit 0))
 (.seq
 (.block 1
 (.seq
 (.set 5 (.var 3))
 (.seq
 (.dyn (some 6) (.var 1) [(.ld none (.ixSl 1 (.var 0) (.var 5)))] [])
 (.cond (.var 6)
 (.seq
 (.set 2 (.var 5))
 .ret)
 .skip))))
 (.set 3 (.bin .add (.var 3) (.const (.int .i64 1)))))))))
 (.seq
 (.set 2 (.const (.int .i64 (-1))))
 .ret))),
  [(.var 2)]⟩
theorem okx_120 : FnOk Tryz.prog 0 125 120 xf120 := fnOk_of Tryz.func120 (np := 2) (V := [0, 1, 4, 8, 7, 5, 16]) (ks := [[0, 1, 3, 4]]) (by kernel_rfl)

/- slices.Sort[[]int,int] -/
def xf121 : XF := ⟨1, [0, 2, 9],
  (.seq
 (.set 1 (.len false (.var 0)))
 (.seq
 (.chk [(.var 0)])
 (.seq
 (.call (some 2) 143 [(.conv .u64 (.var 1))] [])
 (.call none 142 [(.var 0), (.const (.int .i64 0)), (.var 1), (.var 2)] [])))),
  []⟩
theorem okx_121 : FnOk Tryz.prog 0 125 121 xf121 := fnOk_of Tryz.func121 (np := 1) (V := [0, 2, 9]) (ks := []) (by kernel_rfl)

/- slices.Compact[[]int,int] -/
def xf122 : XF := ⟨1, [0, 2, 3, 4, 5],
  (.seq
 (.set 1 (.const (.slice none 0 0)))
 (.seq
 (.cond (.bin .lss (.len false (.var 0)) (.const (.int .i64 2)))
 (.seq
 (.set 1 (.var 0))
 .ret)
 .skip)
 (.seq
 (.seq
 (.set 2 (.const (.int .i64 1)))
 (.block 0
 (.loop [0, 2]
 (.seq
 (.cond (.bin .lss (.var 2) (.len false (.var 0)))
 .skip
 (.exit 0))
 (.seq
 (.block 1
 (.seq
 .skip
 (.cond (.bin .eql (.ld none (.ixSl 1 (.var 0) (.var 2))) (.ld none (.ixSl 1 (.var 0) (.bin .sub (.var 2) (.const (.int .i64 1))))))
 (.seq
 (.set 3 (.slSl 1 (.var 0) (.var 2) (.len false (.var 0))))
 (.seq
 (.seq
 (.set 4 (.const (.int .i64 1)))
 (.block 2
 (.loop [0, 2, 3, 4]
 (.seq
 (.cond (.bin .lss (.var 4) (.len false (.var 3)))
 .skip
 (.exit 2))
 (.seq
 (.block 3
 (.seq
 .skip
 (.cond (.bin .neq (.ld none (.ixSl 1 (.var 3) (.var 4))) (.ld none (.ixSl 1 (.var 3) (.bin .sub (.var 4) (.const (.int .i64 1))))))
 (.seq
 (.store 1 (.ixSl 1 (.var 0) (.var 2)) (.ld none (.ixSl 1 (.var 3) (.var 4))) [])
 (.set 2 (.bin .add (.var 2) (.const (.int .i64 1)))))
 .skip)))
 (.set 4 (.bin .add (.var 4) (.const (.int .i64 1)))))))))
 (.seq
 (.clear [(.int .i64 0)] (.slSl 1 (.var 0) (.var 2) (.len false (.var 0))) [])
 (.seq
 (.set 1 (.slSl 1 (.var 0) (.const (.int .i64 0)) (.var 2)))
 .ret))))
 .skip)))
 (.set 2 (.bin .add (.var 2) (.const (.int .i64 1)))))))))
 (.seq
 (.set 1 (.var 0))
 .ret)))),
  [(.var 1)]⟩
theorem okx_122 : FnOk Tryz.prog 0 125 122 xf122 := fnOk_of Tryz.func122 (np := 1) (V := [0, 2, 3, 4, 5]) (ks := [[0, 2], [0, 2, 3, 4]]) (by kernel_rfl)

/- tipstaff/tnum.Has -/
def xf123 : XF := ⟨2, [0, 1, 4, 2],
  (.seq
 (.seq
 (.new (some 3) 71 (.var 0))
 (.set 2 (.const (.bool false))))
 (.seq
 (.set 2 (.bin .eql (.bin .andNot (.var 1) (.ld none (.offp 1 (.var 3)))) (.ld none (.offp 0 (.var 3)))))
 .ret)),
  [(.var 2)]⟩
theorem okx_123 : FnOk Tryz.prog 0 125 123 xf123 := fnOk_of Tryz.func123 (np := 2) (V := [0, 1, 4, 2]) (ks := []) (by kernel_rfl)

/- tipstaff/tnum.Add -/
def xf124 : XF := ⟨2, [0, 1, 4, 2, 3, 5, 6, 29],
  (.seq
 (.seq
 (.new (some 3) 71 (.var 0))
 (.seq
 (.new (some 4) 71 (.var 1))
 (.new (some 2) 71 (.const (.agg #[(.int .u64 0), (.int .u64 0)])))))
 (.seq
 (.set 5 (.bin .add (.ld none (.offp 0 (.var 3))) (.ld none (.offp 0 (.var 4)))))
 (.seq
 (.set 6 (.bin .add (.bin .add (.var 5) (.ld none (.offp 1 (.var 3)))) (.ld none (.offp 1 (.var 4)))))
 (.seq
 (.seq
 (.call (some 7) 133 [(.var 5), (.bin .or (.bin .or (.bin .xor (.var 5) (.var 6)) (.ld none (.offp 1 (.var 3)))) (.ld none (.offp 1 (.var 4))))] [])
 (.store 2 (.var 2) (.var 7) []))
 .ret)))),
  [(.ld (some 2) (.var 2))]⟩
theorem okx_124 : FnOk Tryz.prog 0 125 124 xf124 := fnOk_of Tryz.func124 (np := 2) (V := [0, 1, 4, 2, 3, 5, 6, 29]) (ks := []) (by kernel_rfl)

/- tipstaff/tnum.Sub -/
def xf126 : XF := ⟨2, [0, 1, 4, 2, 3, 5, 6, 7, 31],
  (.seq
 (.seq
 (.new (some 3) 71 (.var 0))
 (.seq
 (.new (some 4) 71 (.var 1))
 (.new (some 2) 71 (.const (.agg #[(.int .u64 0), (.int .u64 0)])))))
 (.seq
 (.set 5 (.bin .sub (.ld none (.offp 0 (.var 3))) (.ld none (.offp 0 (.var 4)))))
 (.seq
 (.seq
 .skip
 (.seq
 (.chk [(.bin .sub (.var 5) (.ld none (.offp 1 (.var 4))))])
 (.seq
 (.set 6 (.bin .add (.var 5) (.ld none (.offp 1 (.var 3)))))
 (.set 7 (.bin .sub (.var 5) (.ld none (.offp 1 (.var 4))))))))
 (.seq
 (.seq
 (.call (some 8) 133 [(.var 5), (.bin .or (.bin .or (.bin .xor (.var 6) (.var 7)) (.ld none (.offp 1 (.var 3)))) (.ld none (.offp 1 (.var 4))))] [])
 (.store 2 (.var 2) (.var 8) []))
 .ret)))),
  [(.ld (some 2) (.var 2))]⟩
theorem okx_126 : FnOk Tryz.prog 0 125 126 xf126 := fnOk_of Tryz.func126 (np := 2) (V := [0, 1, 4, 2, 3, 5, 6, 7, 31]) (ks := []) (by kernel_rfl)

/- tipstaff/tnum.Mul -/
def xf127 : XF := ⟨2, [0, 1, 4, 2, 3, 11, 5, 22, 31, 32, 44, 19, 20, 21],
  (.seq
 (.seq
 (.new (some 3) 71 (.var 0))
 (.seq
 (.new (some 4) 71 (.var 1))
 (.new (some 2) 71 (.const (.agg #[(.int .u64 0), (.int .u64 0)])))))
 (.seq
 (.seq
 (.call (some 5) 103 [(.bin .mul (.ld none (.offp 0 (.var 3))) (.ld none (.offp 0 (.var 4))))] [])
 (.seq
 (.new (some 6) 71 (.const (.agg #[(.int .u64 0), (.int .u64 0)])))
 (.store 2 (.var 6) (.var 5) [])))
 (.seq
 (.block 0
 (.loop [2, 3, 4, 6]
 (.seq
 (.cond (.bin .neq (.bin .or (.ld none (.offp 0 (.var 3))) (.ld none (.offp 1 (.var 3)))) (.const (.int .u64 0)))
 .skip
 (.exit 0))
 (.seq
 (.block 1
 (.block 2
 (.seq
 (.set 7 (.bin .eql (.bin .and (.ld none (.offp 0 (.var 3))) (.const (.int .u64 1))) (.const (.int .u64 1))))
 (.cond (.var 7)
 (.seq
 (.chk [(.upd 1 1 (.const (.agg #[(.int .u64 0), (.int .u64 0)])) (.ld none (.offp 1 (.var 4))))])
 (.seq
 (.call (some 8) 124 [(.ld (some 2) (.var 6)), (.upd 1 1 (.const (.agg #[(.int .u64 0), (.int .u64 0)])) (.ld none (.offp 1 (.var 4))))] [])
 (.store 2 (.var 6) (.var 8) [])))
 (.seq
 (.set 9 (.bin .eql (.bin .and (.ld none (.offp 1 (.var 3))) (.const (.int .u64 1))) (.const (.int .u64 1))))
 (.cond (.var 9)
 (.seq
 (.chk [(.upd 1 1 (.const (.agg #[(.int .u64 0), (.int .u64 0)])) (.bin .or (.ld none (.offp 0 (.var 4))) (.ld none (.offp 1 (.var 4)))))])
 (.seq
 (.call (some 10) 124 [(.ld (some 2) (.var 6)), (.upd 1 1 (.const (.agg #[(.int .u64 0), (.int .u64 0)])) (.bin .or (.ld none (.offp 0 (.var 4))) (.ld none (.offp 1 (.var 4)))))] [])
 (.store 2 (.var 6) (.var 10) [])))
 .skip))))))
 (.seq
 .skip
 (.seq
 (.chk [(.ld (some 2) (.var 3))])
 (.seq
 (.set 12 (.ld (some 2) (.var 4)))
 (.seq
 (.call (some 11) 144 [(.ld (some 2) (.var 3)), (.const (.int .i64 1))] [(.ld (some 2) (.var 4))])
 (.seq
 (.call (some 13) 145 [(.var 12), (.const (.int .i64 1))] [])
 (.seq
 (.store 2 (.var 3) (.var 11) [])
 (.store 2 (.var 4) (.var 13) [])))))))))))
 (.seq
 (.store 2 (.var 2) (.ld (some 2) (.var 6)) [])
 .ret)))),
  [(.ld (some 2) (.var 2))]⟩
theorem okx_127 : FnOk Tryz.prog 0 125 127 xf127 := fnOk_of Tryz.func127 (np := 2) (V := [0, 1, 4, 2, 3, 11, 5, 22, 31, 32, 44, 19, 20, 21]) (ks := [[2, 3, 4, 6]]) (by kernel_rfl)

/- math/bits.Mul64 -/
def xf128 : XF := ⟨2, [0, 1, 4, 5, 6, 7, 8, 9, 10, 11, 12, 13],
  (.seq
 (.seq
 (.set 2 (.const (.int .u64 0)))
 (.set 3 (.const (.int .u64 0))))
 (.seq
 (.set 4 (.bin .and (.var 0) (.const (.int .u64 4294967295))))
 (.seq
 (.set 5 (.bin .shr (.var 0) (.const (.int .u64 32))))
 (.seq
 (.set 6 (.bin .and (.var 1) (.const (.int .u64 4294967295))))
 (.seq
 (.set 7 (.bin .shr (.var 1) (.const (.int .u64 32))))
 (.seq
 (.set 8 (.bin .mul (.var 4) (.var 6)))
 (.seq
 (.set 9 (.bin .add (.bin .mul (.var 5) (.var 6)) (.bin .shr (.var 8) (.const (.int .u64 32)))))
 (.seq
 (.set 10 (.bin .and (.var 9) (.const (.int .u64 4294967295))))
 (.seq
 (.set 11 (.bin .shr (.var 9) (.const (.int .u64 32))))
 (.seq
 (.set 10 (.bin .add (.var 10) (.bin .mul (.var 4) (.var 7))))
 (.seq
 (.set 2 (.bin .add (.bin .add (.bin .mul (.var 5) (.var 7)) (.var 11)) (.bin .shr (.var 10) (.const (.int .u64 32)))))
 (.seq
 (.set 3 (.bin .mul (.var 0) (.var 1)))
 .ret)))))))))))),
  [(.var 2), (.var 3)]⟩
theorem okx_128 : FnOk Tryz.prog 0 125 128 xf128 := fnOk_of Tryz.func128 (np := 2) (V := [0, 1, 4, 5, 6, 7, 8, 9, 10, 11, 12, 13]) (ks := []) (by kernel_rfl)

/- tipstaff/tnum.And -/
def xf129 : XF := ⟨2, [0, 1, 4, 2, 3, 5, 6, 27],
  (.seq
 (.seq
 (.new (some 3) 71 (.var 0))
 (.seq
 (.new (some 4) 71 (.var 1))
 (.new (some 2) 71 (.const (.agg #[(.int .u64 0), (.int .u64 0)])))))
 (.seq
 (.set 5 (.bin .and (.bin .or (.ld none (.offp 0 (.var 3))) (.ld none (.offp 1 (.var 3)))) (.bin .or (.ld none (.offp 0 (.var 4))) (.ld none (.offp 1 (.var 4))))))
 (.seq
 (.set 6 (.bin .and (.ld none (.offp 0 (.var 3))) (.ld none (.offp 0 (.var 4)))))
 (.seq
 (.seq
 (.call (some 7) 133 [(.var 6), (.bin .andNot (.var 5) (.var 6))] [])
 (.store 2 (.var 2) (.var 7) []))
 .ret)))),
  [(.ld (some 2) (.var 2))]⟩
theorem okx_129 : FnOk Tryz.prog 0 125 129 xf129 := fnOk_of Tryz.func129 (np := 2) (V := [0, 1, 4, 2, 3, 5, 6, 27]) (ks := []) (by kernel_rfl)

/- tipstaff/tnum.Or -/
def xf130 : XF := ⟨2, [0, 1, 4, 2, 3, 5, 19],
  (.seq
 (.seq
 (.new (some 3) 71 (.var 0))
 (.seq
 (.new (some 4) 71 (.var 1))
 (.new (some 2) 71 (.const (.agg #[(.int .u64 0), (.int .u64 0)])))))
 (.seq
 (.set 5 (.bin .or (.ld none (.offp 0 (.var 3))) (.ld none (.offp 0 (.var 4)))))
 (.seq
 (.seq
 (.call (some 6) 133 [(.var 5), (.bin .andNot (.bin .or (.ld none (.offp 1 (.var 3))) (.ld none (.offp 1 (.var 4)))) (.var 5))] [])
 (.store 2 (.var 2) (.var 6) []))
 .ret))),
  [(.ld (some 2) (.var 2))]⟩
theorem okx_130 : FnOk Tryz.prog 0 125 130 xf130 := fnOk_of Tryz.func130 (np := 2) (V := [0, 1, 4, 2, 3, 5, 19]) (ks := []) (by kernel_rfl)

/- tipstaff/tnum.Xor -/
def xf131 : XF := ⟨2, [0, 1, 4, 2, 3, 15],
  (.seq
 (.seq
 (.new (some 3) 71 (.var 0))
 (.seq
 (.new (some 4) 71 (.var 1))
 (.new (some 2) 71 (.const (.agg #[(.int .u64 0), (.int .u64 0)])))))
 (.seq
 (.seq
 (.call (some 5) 133 [(.bin .xor (.ld none (.offp 0 (.var 3))) (.ld none (.offp 0 (.var 4)))), (.bin .or (.ld none (.offp 1 (.var 3))) (.ld none (.offp 1 (.var 4))))] [])
 (.store 2 (.var 2) (.var 5) []))
 .ret)),
  [(.ld (some 2) (.var 2))]⟩
theorem okx_131 : FnOk Tryz.prog 0 125 131 xf131 := fnOk_of Tryz.func131 (np := 2) (V := [0, 1, 4, 2, 3, 15]) (ks := []) (by kernel_rfl)

/- tipstaff/scalar.shifted -/
def xf132 : XF := ⟨3, [0, 1, 2, 6, 5, 10, 11, 13, 7, 17, 21, 31, 35, 36, 46, 8, 41, 45, 50, 53, 54, 9, 62, 66],
  (.seq
 (.seq
 (.new (some 4) 73 (.var 2))
 (.new (some 3) 73 (.const zA2)))
 (.seq
 (.seq
 (.set 5 (.var 0))
 (.block 0
 (.seq
 (.set 6 (.bin .eql (.var 5) (.const (.int .i64 6))))
 (.cond (.var 6)
 (.seq
 (.seq
 (.call (some 7) 92 [] [])
 (.seq
 (.new (some 8) 73 (.const zA2))
 (.store 6 (.var 8) (.var 7) [])))
 (.seq
 (.seq
 (.call (some 9) 145 [(.ld (some 2) (.offp 0 (.var 4))), (.var 1)] [])
 (.store 2 (.offp 0 (.var 8)) (.var 9) []))
 (.seq
 (.seq
 (.call (some 10) 146 [(.ld none (.offp 3 (.var 4)))] [])
 (.cond (.bin .geq (.var 10) (.var 1))
 (.seq
 .skip
 (.seq
 (.chk [(.bin .shl (.ld none (.offp 2 (.var 4))) (.var 1))])
 (.seq
 (.set 11 (.bin .shl (.ld none (.offp 3 (.var 4))) (.var 1)))
 (.seq
 (.store 1 (.offp 2 (.var 8)) (.bin .shl (.ld none (.offp 2 (.var 4))) (.var 1)) [(.ld none (.offp 3 (.var 4)))])
 (.store 1 (.offp 3 (.var 8)) (.var 11) [])))))
 .skip))
 (.seq
 (.seq
 (.call (some 12) 115 [(.ld (some 6) (.var 8))] [])
 (.store 6 (.var 3) (.var 12) []))
 .ret))))
 (.seq
 (.set 13 (.bin .eql (.var 5) (.const (.int .i64 7))))
 (.cond (.var 13)
 (.seq
 (.seq
 .skip
 (.seq
 (.set 16 (.bin .shr (.ld none (.offp 2 (.var 4))) (.var 1)))
 (.seq
 (.set 17 (.bin .shr (.ld none (.offp 3 (.var 4))) (.var 1)))
 (.seq
 (.resv 1)
 (.seq
 (.clr [15])
 (.seq
 (.chk [(.const zA2)])
 (.seq
 (.call (some 14) 114 [(.var 16), (.var 17)] [(.ld none (.offp 3 (.var 4))), (.ld none (.offp 2 (.var 4)))])
 (.seq
 (.newR 0 15 73 (.const zA2))
 (.seq
 (.store 6 (.var 15) (.var 14) [])
 .skip)))))))))
 (.seq
 (.seq
 (.call (some 18) 144 [(.ld (some 2) (.offp 0 (.var 4))), (.var 1)] [])
 (.store 2 (.offp 0 (.var 15)) (.var 18) []))
 (.seq
 (.seq
 (.call (some 19) 115 [(.ld (some 6) (.var 15))] [])
 (.store 6 (.var 3) (.var 19) []))
 .ret)))
 .skip))))))
 (.seq
 (.seq
 (.call (some 20) 92 [] [])
 (.seq
 (.new (some 21) 73 (.const zA2))
 (.store 6 (.var 21) (.var 20) [])))
 (.seq
 (.seq
 .skip
 (.seq
 (.chk [(.bin .shr (.ld none (.offp 4 (.var 4))) (.var 1))])
 (.seq
 (.set 22 (.bin .shr (.ld none (.offp 5 (.var 4))) (.var 1)))
 (.seq
 (.store 1 (.offp 4 (.var 21)) (.bin .shr (.ld none (.offp 4 (.var 4))) (.var 1)) [(.ld none (.offp 5 (.var 4)))])
 (.store 1 (.offp 5 (.var 21)) (.var 22) [])))))
 (.seq
 (.seq
 (.call (some 23) 115 [(.ld (some 6) (.var 21))] [])
 (.store 6 (.var 3) (.var 23) []))
 .ret))))),
  [(.ld (some 6) (.var 3))]⟩
theorem okx_132 : FnOk Tryz.prog 0 125 132 xf132 := fnOk_of Tryz.func132 (np := 3) (V := [0, 1, 2, 6, 5, 10, 11, 13, 7, 17, 21, 31, 35, 36, 46, 8, 41, 45, 50, 53, 54, 9, 62, 66]) (ks := []) (by kernel_rfl)

/- tipstaff/tnum.of -/
def xf133 : XF := ⟨2, [0, 1, 4],
  (.seq
 (.new (some 2) 71 (.const (.agg #[(.int .u64 0), (.int .u64 0)])))
 (.seq
 (.seq
 (.chk [(.upd 1 1 (.upd 0 1 (.const (.agg #[(.int .u64 0), (.int .u64 0)])) (.bin .andNot (.var 0) (.var 1))) (.var 1))])
 (.store 2 (.var 2) (.upd 1 1 (.upd 0 1 (.const (.agg #[(.int .u64 0), (.int .u64 0)])) (.bin .andNot (.var 0) (.var 1))) (.var 1)) []))
 .ret)),
  [(.ld (some 2) (.var 2))]⟩
theorem okx_133 : FnOk Tryz.prog 0 125 133 xf133 := fnOk_of Tryz.func133 (np := 2) (V := [0, 1, 4]) (ks := []) (by kernel_rfl)

/- tipstaff/scalar.Settle -/
def xf134 : XF := ⟨1, [0, 2, 3, 1, 9, 4, 26, 42, 72, 67, 73, 5, 6, 69, 71],
  (.seq
 (.seq
 (.new (some 3) 73 (.var 0))
 (.seq
 (.new (some 1) 73 (.const zA2))
 (.set 2 (.const (.bool false)))))
 (.seq
 (.seq
 (.call (some 4) 147 [(.ld (some 2) (.offp 0 (.var 3)))] [])
 (.cond (.pick (.pick (.un .not (.var 4)) (.const (.bool true)) (.bin .gtr (.ld none (.offp 2 (.var 3))) (.ld none (.offp 3 (.var 3))))) (.const (.bool true)) (.bin .gtr (.ld none (.offp 4 (.var 3))) (.ld none (.offp 5 (.var 3)))))
 (.seq
 (.seq
 (.store 6 (.var 1) (.const zA2) [])
 (.set 2 (.const (.bool false))))
 .ret)
 .skip))
 (.seq
 (.seq
 (.set 6 (.ld (some 6) (.var 3)))
 (.seq
 (.new (some 5) 73 (.const zA2))
 (.store 6 (.var 5) (.var 6) [])))
 (.seq
 (.seq
 (.chk [(.mx (.ld none (.offp 2 (.var 5))) (.ld none (.offp 0 (.offp 0 (.var 5)))))])
 (.seq
 (.set 7 (.mn (.ld none (.offp 3 (.var 5))) (.bin .or (.ld none (.offp 0 (.offp 0 (.var 5)))) (.ld none (.offp 1 (.offp 0 (.var 5)))))))
 (.seq
 (.store 1 (.offp 2 (.var 5)) (.mx (.ld none (.offp 2 (.var 5))) (.ld none (.offp 0 (.offp 0 (.var 5))))) [])
 (.store 1 (.offp 3 (.var 5)) (.var 7) []))))
 (.seq
 (.cond (.bin .gtr (.ld none (.offp 2 (.var 5))) (.ld none (.offp 3 (.var 5))))
 (.seq
 (.seq
 (.store 6 (.var 1) (.const zA2) [])
 (.set 2 (.const (.bool false))))
 .ret)
 .skip)
 (.seq
 (.call none 148 [(.var 5)] [])
 (.seq
 (.cond (.pick (.bin .gtr (.ld none (.offp 2 (.var 5))) (.ld none (.offp 3 (.var 5)))) (.const (.bool true)) (.bin .gtr (.ld none (.offp 4 (.var 5))) (.ld none (.offp 5 (.var 5)))))
 (.seq
 (.seq
 (.store 6 (.var 1) (.const zA2) [])
 (.set 2 (.const (.bool false))))
 .ret)
 .skip)
 (.seq
 (.seq
 .skip
 (.seq
 (.set 9 (.ld (some 2) (.offp 0 (.var 5))))
 (.seq
 (.set 13 (.ld none (.offp 2 (.var 5))))
 (.seq
 (.set 14 (.ld none (.offp 3 (.var 5))))
 (.seq
 (.resv 1)
 (.seq
 (.clr [11])
 (.seq
 (.chk [(.const (.agg #[(.int .u64 0), (.int .u64 0)]))])
 (.seq
 (.call (some 8) 150 [(.var 13), (.var 14)] [(.ld none (.offp 3 (.var 5))), (.ld none (.offp 2 (.var 5))), (.ld (some 2) (.offp 0 (.var 5)))])
 (.seq
 (.call (some 10) 149 [(.var 9), (.var 8)] [(.ld none (.offp 3 (.var 5))), (.ld none (.offp 2 (.var 5))), (.ld (some 2) (.offp 0 (.var 5)))])
 (.seq
 (.chk [(.proj 1 (.var 10)), (.proj 0 (.var 10))])
 (.seq
 (.newR 0 11 71 (.const (.agg #[(.int .u64 0), (.int .u64 0)])))
 (.seq
 (.store 2 (.var 11) (.proj 0 (.var 10)) [])
 (.seq
 (.set 12 (.proj 1 (.var 10)))
 .skip)))))))))))))
 (.seq
 (.cond (.un .not (.var 12))
 (.seq
 (.seq
 (.store 6 (.var 1) (.const zA2) [])
 (.set 2 (.const (.bool false))))
 .ret)
 .skip)
 (.seq
 (.store 2 (.offp 0 (.var 5)) (.ld (some 2) (.var 11)) [])
 (.seq
 (.seq
 (.store 6 (.var 1) (.ld (some 6) (.var 5)) [])
 (.set 2 (.const (.bool true))))
 .ret))))))))))),
  [(.ld (some 6) (.var 1)), (.var 2)]⟩
theorem okx_134 : FnOk Tryz.prog 0 125 134 xf134 := fnOk_of Tryz.func134 (np := 1) (V := [0, 2, 3, 1, 9, 4, 26, 42, 72, 67, 73, 5, 6, 69, 71]) (ks := []) (by kernel_rfl)

/- (tipstaff/branch.pair).settle -/
def xf135 : XF := ⟨1, [0, 2, 3, 1, 11, 4, 5, 17, 6, 7],
  (.seq
 (.seq
 (.new (some 3) 175 (.var 0))
 (.seq
 (.new (some 1) 175 (.const zA5))
 (.set 2 (.const (.bool false)))))
 (.seq
 (.seq
 (.call (some 4) 134 [(.ld (some 6) (.offp 0 (.var 3)))] [])
 (.seq
 (.chk [(.proj 1 (.var 4)), (.proj 0 (.var 4))])
 (.seq
 (.new (some 5) 73 (.const zA2))
 (.seq
 (.store 6 (.var 5) (.proj 0 (.var 4)) [])
 (.set 6 (.proj 1 (.var 4)))))))
 (.seq
 (.seq
 (.call (some 7) 134 [(.ld (some 6) (.offp 6 (.var 3)))] [])
 (.seq
 (.chk [(.proj 1 (.var 7)), (.proj 0 (.var 7))])
 (.seq
 (.new (some 8) 73 (.const zA2))
 (.seq
 (.store 6 (.var 8) (.proj 0 (.var 7)) [])
 (.set 9 (.proj 1 (.var 7)))))))
 (.seq
 (.seq
 (.chk [(.pick (.var 6) (.var 9) (.const (.bool false))), (.upd 6 6 (.upd 0 6 (.const zA5) (.ld (some 6) (.var 5))) (.ld (some 6) (.var 8)))])
 (.seq
 (.store 12 (.var 1) (.upd 6 6 (.upd 0 6 (.const zA5) (.ld (some 6) (.var 5))) (.ld (some 6) (.var 8))) [])
 (.set 2 (.pick (.var 6) (.var 9) (.const (.bool false))))))
 .ret)))),
  [(.ld (some 12) (.var 1)), (.var 2)]⟩
theorem okx_135 : FnOk Tryz.prog 0 125 135 xf135 := fnOk_of Tryz.func135 (np := 1) (V := [0, 2, 3, 1, 11, 4, 5, 17, 6, 7]) (ks := []) (by kernel_rfl)

/- tipstaff/branch.alone -/
def xf136 : XF := ⟨1, [0, 2, 3, 4, 1, 5, 6, 18, 16, 24, 22, 20],
  (.seq
 (.seq
 (.new (some 4) 175 (.var 0))
 (.seq
 (.set 1 (.const (.int .u64 0)))
 (.seq
 (.set 2 (.const (.int .u64 0)))
 (.set 3 (.const (.bool false))))))
 (.seq
 (.seq
 .skip
 (.seq
 (.chk [(.ld none (.offp 2 (.offp 6 (.var 4))))])
 (.seq
 (.set 5 (.ld none (.offp 2 (.offp 0 (.var 4)))))
 (.set 6 (.ld none (.offp 2 (.offp 6 (.var 4))))))))
 (.seq
 (.seq
 .skip
 (.seq
 (.chk [(.var 6), (.var 5)])
 (.seq
 (.set 8 (.ld (some 6) (.offp 0 (.var 4))))
 (.seq
 (.call (some 7) 83 [(.var 5)] [(.ld (some 6) (.offp 0 (.var 4)))])
 (.seq
 (.set 11 (.eqx false (.cons 0 (some 2) (.cons 0 none .int (.cons 1 none .int .nil)) (.cons 2 none .int (.cons 3 none .int (.cons 4 none .int (.cons 5 none .int .nil))))) (.var 8) (.var 7)))
 (.seq
 (.chk [(.pick (.var 11) (.offp 6 (.var 4)) (.const (.bool false)))])
 (.seq
 (.cond (.pick (.var 11) (.const (.bool true)) (.const (.bool false)))
 (.set 10 (.ld (some 6) (.offp 6 (.var 4))))
 (.clr [10]))
 (.seq
 (.chk [(.pick (.var 11) (.var 6) (.const (.bool false)))])
 (.seq
 (.cond (.pick (.var 11) (.const (.bool true)) (.const (.bool false)))
 (.call (some 9) 83 [(.var 6)] [(.ld (some 6) (.offp 6 (.var 4)))])
 (.clr [9]))
 (.seq
 (.chk [(.pick (.var 11) (.eqx false (.cons 0 (some 2) (.cons 0 none .int (.cons 1 none .int .nil)) (.cons 2 none .int (.cons 3 none .int (.cons 4 none .int (.cons 5 none .int .nil))))) (.var 10) (.var 9)) (.const (.bool false)))])
 (.seq
 (.set 1 (.var 5))
 (.seq
 (.set 2 (.var 6))
 (.set 3 (.pick (.var 11) (.eqx false (.cons 0 (some 2) (.cons 0 none .int (.cons 1 none .int .nil)) (.cons 2 none .int (.cons 3 none .int (.cons 4 none .int (.cons 5 none .int .nil))))) (.var 10) (.var 9)) (.const (.bool false))))))))))))))))
 .ret))),
  [(.var 1), (.var 2), (.var 3)]⟩
theorem okx_136 : FnOk Tryz.prog 0 125 136 xf136 := fnOk_of Tryz.func136 (np := 1) (V := [0, 2, 3, 4, 1, 5, 6, 18, 16, 24, 22, 20]) (ks := []) (by kernel_rfl)

/- tipstaff/branch.Holds -/
def xf137 : XF := ⟨4, [0, 1, 2, 3, 8, 9, 10, 29, 30, 35, 40, 45, 53],
  (.seq
 (.set 4 (.const (.bool false)))
 (.seq
 (.seq
 (.chk [(.conv .i64 (.var 3))])
 (.seq
 (.set 5 (.conv .i64 (.var 2)))
 (.set 6 (.conv .i64 (.var 3)))))
 (.seq
 (.cond (.un .not (.var 1))
 (.seq
 (.seq
 (.chk [(.conv .i64 (.conv .i32 (.var 3)))])
 (.seq
 (.set 5 (.conv .i64 (.conv .i32 (.var 2))))
 (.set 6 (.conv .i64 (.conv .i32 (.var 3))))))
 (.seq
 (.chk [(.conv .u64 (.conv .u32 (.var 3)))])
 (.seq
 (.set 2 (.conv .u64 (.conv .u32 (.var 2))))
 (.set 3 (.conv .u64 (.conv .u32 (.var 3)))))))
 .skip)
 (.seq
 (.seq
 (.set 7 (.var 0))
 (.block 0
 (.seq
 (.set 8 (.bin .eql (.var 7) (.const (.int .i64 6))))
 (.cond (.var 8)
 (.seq
 (.set 4 (.bin .gtr (.var 5) (.var 6)))
 .ret)
 (.seq
 (.set 9 (.bin .eql (.var 7) (.const (.int .i64 7))))
 (.cond (.var 9)
 (.seq
 (.set 4 (.bin .geq (.var 5) (.var 6)))
 .ret)
 (.seq
 (.set 10 (.bin .eql (.var 7) (.const (.int .i64 12))))
 (.cond (.var 10)
 (.seq
 (.set 4 (.bin .lss (.var 5) (.var 6)))
 .ret)
 (.seq
 (.set 11 (.bin .eql (.var 7) (.const (.int .i64 13))))
 (.cond (.var 11)
 (.seq
 (.set 4 (.bin .leq (.var 5) (.var 6)))
 .ret)
 .skip))))))))))
 (.seq
 (.seq
 (.call (some 12) 151 [(.var 0), (.var 2), (.var 3)] [])
 (.set 4 (.var 12)))
 .ret))))),
  [(.var 4)]⟩
theorem okx_137 : FnOk Tryz.prog 0 125 137 xf137 := fnOk_of Tryz.func137 (np := 4) (V := [0, 1, 2, 3, 8, 9, 10, 29, 30, 35, 40, 45, 53]) (ks := []) (by kernel_rfl)

/- tipstaff/branch.short -/
def xf138 : XF := ⟨2, [0, 1, 4, 3, 5, 6, 7],
  (.seq
 (.seq
 (.new (some 3) 175 (.var 1))
 (.set 2 (.const (.bool false))))
 (.seq
 (.set 4 (.const (.int .u64 4294967295)))
 (.seq
 (.seq
 (.set 5 (.var 0))
 (.block 0
 (.seq
 (.seq
 (.set 6 (.bin .eql (.var 5) (.const (.int .i64 6))))
 (.cond (.var 6)
 .skip
 (.seq
 (.set 6 (.bin .eql (.var 5) (.const (.int .i64 7))))
 (.cond (.var 6)
 .skip
 (.seq
 (.set 6 (.bin .eql (.var 5) (.const (.int .i64 12))))
 (.cond (.var 6)
 .skip
 (.set 6 (.bin .eql (.var 5) (.const (.int .i64 13))))))))))
 (.cond (.var 6)
 (.set 4 (.const (.int .u64 2147483647)))
 .skip))))
 (.seq
 (.set 2 (.pick (.bin .leq (.ld none (.offp 3 (.offp 0 (.var 3)))) (.var 4)) (.bin .leq (.ld none (.offp 3 (.offp 6 (.var 3)))) (.var 4)) (.const (.bool false))))
 .ret)))),
  [(.var 2)]⟩
theorem okx_138 : FnOk Tryz.prog 0 125 138 xf138 := fnOk_of Tryz.func138 (np := 2) (V := [0, 1, 4, 3, 5, 6, 7]) (ks := []) (by kernel_rfl)

/- tipstaff/branch.noBits -/
def xf139 : XF := ⟨1, [0, 2, 3, 1, 4, 15, 5, 21, 27, 6, 7, 35, 8, 9, 46, 52],
  (.seq
 (.seq
 (.new (some 3) 175 (.var 0))
 (.seq
 (.new (some 1) 175 (.const zA5))
 (.set 2 (.const (.bool false)))))
 (.seq
 (.seq
 (.set 5 (.upd 1 1 (.const (.agg #[(.int .u64 0), (.int .u64 0)])) (.un .xor (.ld none (.offp 0 (.offp 0 (.offp 6 (.var 3))))))))
 (.seq
 (.new (some 4) 71 (.const (.agg #[(.int .u64 0), (.int .u64 0)])))
 (.store 2 (.var 4) (.var 5) [])))
 (.seq
 (.seq
 (.set 7 (.upd 1 1 (.const (.agg #[(.int .u64 0), (.int .u64 0)])) (.un .xor (.ld none (.offp 0 (.offp 0 (.offp 0 (.var 3))))))))
 (.seq
 (.new (some 6) 71 (.const (.agg #[(.int .u64 0), (.int .u64 0)])))
 (.store 2 (.var 6) (.var 7) [])))
 (.seq
 (.seq
 (.call (some 8) 149 [(.ld (some 2) (.offp 0 (.offp 0 (.var 3)))), (.ld (some 2) (.var 4))] [])
 (.seq
 (.chk [(.proj 1 (.var 8)), (.proj 0 (.var 8))])
 (.seq
 (.new (some 9) 71 (.const (.agg #[(.int .u64 0), (.int .u64 0)])))
 (.seq
 (.store 2 (.var 9) (.proj 0 (.var 8)) [])
 (.set 10 (.proj 1 (.var 8)))))))
 (.seq
 (.seq
 (.call (some 11) 149 [(.ld (some 2) (.offp 0 (.offp 6 (.var 3)))), (.ld (some 2) (.var 6))] [])
 (.seq
 (.chk [(.proj 1 (.var 11)), (.proj 0 (.var 11))])
 (.seq
 (.new (some 12) 71 (.const (.agg #[(.int .u64 0), (.int .u64 0)])))
 (.seq
 (.store 2 (.var 12) (.proj 0 (.var 11)) [])
 (.set 13 (.proj 1 (.var 11)))))))
 (.seq
 (.cond (.pick (.un .not (.var 10)) (.const (.bool true)) (.un .not (.var 13)))
 (.seq
 (.seq
 (.store 12 (.var 1) (.const zA5) [])
 (.set 2 (.const (.bool false))))
 .ret)
 .skip)
 (.seq
 (.seq
 .skip
 (.seq
 (.chk [(.ld (some 2) (.var 9))])
 (.seq
 (.set 14 (.ld (some 2) (.var 12)))
 (.seq
 (.store 2 (.offp 0 (.offp 0 (.var 3))) (.ld (some 2) (.var 9)) [(.ld (some 2) (.var 12))])
 (.store 2 (.offp 0 (.offp 6 (.var 3))) (.var 14) [])))))
 (.seq
 (.seq
 (.call (some 15) 135 [(.ld (some 12) (.var 3))] [])
 (.seq
 (.chk [(.proj 1 (.var 15))])
 (.seq
 (.store 12 (.var 1) (.proj 0 (.var 15)) [])
 (.set 2 (.proj 1 (.var 15))))))
 .ret)))))))),
  [(.ld (some 12) (.var 1)), (.var 2)]⟩
theorem okx_139 : FnOk Tryz.prog 0 125 139 xf139 := fnOk_of Tryz.func139 (np := 1) (V := [0, 2, 3, 1, 4, 15, 5, 21, 27, 6, 7, 35, 8, 9, 46, 52]) (ks := []) (by kernel_rfl)

/- tipstaff/branch.opposite -/
def xf140 : XF := ⟨1, [0, 2, 3, 4, 6, 8, 10, 12, 14, 16, 18, 20, 22],
  (.seq
 (.set 1 (.const (.int .i64 0)))
 (.seq
 (.seq
 (.set 2 (.var 0))
 (.block 0
 (.seq
 (.set 3 (.bin .eql (.var 2) (.const (.int .i64 1))))
 (.cond (.var 3)
 (.seq
 (.set 1 (.const (.int .i64 5)))
 .ret)
 (.seq
 (.set 4 (.bin .eql (.var 2) (.const (.int .i64 5))))
 (.cond (.var 4)
 (.seq
 (.set 1 (.const (.int .i64 1)))
 .ret)
 (.seq
 (.set 5 (.bin .eql (.var 2) (.const (.int .i64 2))))
 (.cond (.var 5)
 (.seq
 (.set 1 (.const (.int .i64 11)))
 .ret)
 (.seq
 (.set 6 (.bin .eql (.var 2) (.const (.int .i64 11))))
 (.cond (.var 6)
 (.seq
 (.set 1 (.const (.int .i64 2)))
 .ret)
 (.seq
 (.set 7 (.bin .eql (.var 2) (.const (.int .i64 10))))
 (.cond (.var 7)
 (.seq
 (.set 1 (.const (.int .i64 3)))
 .ret)
 (.seq
 (.set 8 (.bin .eql (.var 2) (.const (.int .i64 3))))
 (.cond (.var 8)
 (.seq
 (.set 1 (.const (.int .i64 10)))
 .ret)
 (.seq
 (.set 9 (.bin .eql (.var 2) (.const (.int .i64 6))))
 (.cond (.var 9)
 (.seq
 (.set 1 (.const (.int .i64 13)))
 .ret)
 (.seq
 (.set 10 (.bin .eql (.var 2) (.const (.int .i64 13))))
 (.cond (.var 10)
 (.seq
 (.set 1 (.const (.int .i64 6)))
 .ret)
 (.seq
 (.set 11 (.bin .eql (.var 2) (.const (.int .i64 12))))
 (.cond (.var 11)
 (.seq
 (.set 1 (.const (.int .i64 7)))
 .ret)
 (.seq
 (.set 12 (.bin .eql (.var 2) (.const (.int .i64 7))))
 (.cond (.var 12)
 (.seq
 (.set 1 (.const (.int .i64 12)))
 .ret)
 .skip))))))))))))))))))))))
 (.seq
 (.set 1 (.const (.int .i64 0)))
 .ret))),
  [(.var 1)]⟩
theorem okx_140 : FnOk Tryz.prog 0 125 140 xf140 := fnOk_of Tryz.func140 (np := 1) (V := [0, 2, 3, 4, 6, 8, 10, 12, 14, 16, 18, 20, 22]) (ks := []) (by kernel_rfl)

/- tipstaff/branch.where -/
def xf141 : XF := ⟨2, [0, 1, 4, 5, 3, 6, 7, 10, 13, 16, 19, 25, 28, 34, 37, 43, 46, 52, 56],
  (.seq
 (.seq
 (.new (some 4) 175 (.var 1))
 (.seq
 (.new (some 2) 175 (.const zA5))
 (.set 3 (.const (.bool false)))))
 (.seq
 (.seq
 (.set 5 (.var 0))
 (.block 0
 (.seq
 (.set 6 (.bin .eql (.var 5) (.const (.int .i64 1))))
 (.cond (.var 6)
 (.seq
 (.seq
 (.call (some 7) 152 [(.ld (some 12) (.var 4))] [])
 (.seq
 (.chk [(.proj 1 (.var 7))])
 (.seq
 (.store 12 (.var 2) (.proj 0 (.var 7)) [])
 (.set 3 (.proj 1 (.var 7))))))
 .ret)
 (.seq
 (.set 8 (.bin .eql (.var 5) (.const (.int .i64 5))))
 (.cond (.var 8)
 (.seq
 (.seq
 (.call (some 9) 153 [(.ld (some 12) (.var 4))] [])
 (.seq
 (.chk [(.proj 1 (.var 9))])
 (.seq
 (.store 12 (.var 2) (.proj 0 (.var 9)) [])
 (.set 3 (.proj 1 (.var 9))))))
 .ret)
 (.seq
 (.seq
 (.set 10 (.bin .eql (.var 5) (.const (.int .i64 2))))
 (.cond (.var 10)
 .skip
 (.set 10 (.bin .eql (.var 5) (.const (.int .i64 3))))))
 (.cond (.var 10)
 (.seq
 (.seq
 (.call (some 11) 154 [(.ld (some 12) (.var 4)), (.bin .eql (.var 0) (.const (.int .i64 2)))] [])
 (.seq
 (.chk [(.proj 1 (.var 11))])
 (.seq
 (.store 12 (.var 2) (.proj 0 (.var 11)) [])
 (.set 3 (.proj 1 (.var 11))))))
 .ret)
 (.seq
 (.seq
 (.set 12 (.bin .eql (.var 5) (.const (.int .i64 10))))
 (.cond (.var 12)
 .skip
 (.set 12 (.bin .eql (.var 5) (.const (.int .i64 11))))))
 (.cond (.var 12)
 (.seq
 (.seq
 (.call (some 13) 155 [(.ld (some 12) (.var 4)), (.const (.func (.func 154) #[] #[])), (.bin .eql (.var 0) (.const (.int .i64 10)))] [])
 (.seq
 (.chk [(.proj 1 (.var 13))])
 (.seq
 (.store 12 (.var 2) (.proj 0 (.var 13)) [])
 (.set 3 (.proj 1 (.var 13))))))
 .ret)
 (.seq
 (.seq
 (.set 14 (.bin .eql (.var 5) (.const (.int .i64 6))))
 (.cond (.var 14)
 .skip
 (.set 14 (.bin .eql (.var 5) (.const (.int .i64 7))))))
 (.cond (.var 14)
 (.seq
 (.seq
 (.call (some 15) 156 [(.ld (some 12) (.var 4)), (.bin .eql (.var 0) (.const (.int .i64 6)))] [])
 (.seq
 (.chk [(.proj 1 (.var 15))])
 (.seq
 (.store 12 (.var 2) (.proj 0 (.var 15)) [])
 (.set 3 (.proj 1 (.var 15))))))
 .ret)
 (.seq
 (.seq
 (.set 16 (.bin .eql (.var 5) (.const (.int .i64 12))))
 (.cond (.var 16)
 .skip
 (.set 16 (.bin .eql (.var 5) (.const (.int .i64 13))))))
 (.cond (.var 16)
 (.seq
 (.seq
 (.call (some 17) 155 [(.ld (some 12) (.var 4)), (.const (.func (.func 156) #[] #[])), (.bin .eql (.var 0) (.const (.int .i64 12)))] [])
 (.seq
 (.chk [(.proj 1 (.var 17))])
 (.seq
 (.store 12 (.var 2) (.proj 0 (.var 17)) [])
 (.set 3 (.proj 1 (.var 17))))))
 .ret)
 .skip))))))))))))))
 (.seq
 (.seq
 (.call (some 18) 135 [(.ld (some 12) (.var 4))] [])
 (.seq
 (.chk [(.proj 1 (.var 18))])
 (.seq
 (.store 12 (.var 2) (.proj 0 (.var 18)) [])
 (.set 3 (.proj 1 (.var 18))))))
 .ret))),
  [(.ld (some 12) (.var 2)), (.var 3)]⟩
theorem okx_141 : FnOk Tryz.prog 0 125 141 xf141 := fnOk_of Tryz.func141 (np := 2) (V := [0, 1, 4, 5, 3, 6, 7, 10, 13, 16, 19, 25, 28, 34, 37, 43, 46, 52, 56]) (ks := []) (by kernel_rfl)

/- slices.pdqsortOrdered[int] -/
def xf142 : XF := ⟨4, [0, 1, 2, 3, 8, 9, 10, 46, 11, 12, 72, 85, 92, 13, 99, 14, 15, 16, 17, 18],
  (.seq
 (.set 4 (.const (.bool true)))
 (.seq
 (.set 5 (.const (.bool true)))
 (.block 0
 (.loop [0, 1, 2, 3, 4, 5]
 (.block 1
 (.seq
 (.set 6 (.bin .sub (.var 2) (.var 1)))
 (.seq
 (.cond (.bin .leq (.var 6) (.const (.int .i64 12)))
 (.seq
 (.call none 157 [(.var 0), (.var 1), (.var 2)] [])
 .ret)
 .skip)
 (.seq
 (.cond (.bin .eql (.var 3) (.const (.int .i64 0)))
 (.seq
 (.call none 158 [(.var 0), (.var 1), (.var 2)] [])
 .ret)
 .skip)
 (.seq
 (.cond (.un .not (.var 4))
 (.seq
 (.call none 159 [(.var 0), (.var 1), (.var 2)] [])
 (.set 3 (.bin .sub (.var 3) (.const (.int .i64 1)))))
 .skip)
 (.seq
 (.seq
 (.call (some 7) 160 [(.var 0), (.var 1), (.var 2)] [])
 (.seq
 (.chk [(.proj 1 (.var 7))])
 (.seq
 (.set 8 (.proj 0 (.var 7)))
 (.set 9 (.proj 1 (.var 7))))))
 (.seq
 (.cond (.bin .eql (.var 9) (.const (.int .i64 2)))
 (.seq
 (.call none 161 [(.var 0), (.var 1), (.var 2)] [])
 (.seq
 (.set 8 (.bin .sub (.bin .sub (.var 2) (.const (.int .i64 1))) (.bin .sub (.var 8) (.var 1))))
 (.set 9 (.const (.int .i64 1)))))
 .skip)
 (.seq
 (.cond (.pick (.pick (.var 4) (.var 5) (.const (.bool false))) (.bin .eql (.var 9) (.const (.int .i64 1))) (.const (.bool false)))
 (.seq
 (.call (some 10) 162 [(.var 0), (.var 1), (.var 2)] [])
 (.cond (.var 10)
 .ret
 .skip))
 .skip)
 (.seq
 (.seq
 (.seq
 .skip
 (.seq
 (.chk [(.pick (.bin .gtr (.var 1) (.const (.int .i64 0))) (.ld none (.ixSl 1 (.var 0) (.var 8))) (.const (.bool false))), (.pick (.bin .gtr (.var 1) (.const (.int .i64 0))) (.ld none (.ixSl 1 (.var 0) (.bin .sub (.var 1) (.const (.int .i64 1))))) (.const (.bool false)))])
 (.cond (.pick (.bin .gtr (.var 1) (.const (.int .i64 0))) (.const (.bool true)) (.const (.bool false)))
 (.call (some 11) 163 [(.ld none (.ixSl 1 (.var 0) (.bin .sub (.var 1) (.const (.int .i64 1))))), (.ld none (.ixSl 1 (.var 0) (.var 8)))] [])
 (.clr [11]))))
 (.cond (.pick (.bin .gtr (.var 1) (.const (.int .i64 0))) (.un .not (.var 11)) (.const (.bool false)))
 (.seq
 (.seq
 (.call (some 12) 164 [(.var 0), (.var 1), (.var 2), (.var 8)] [])
 (.set 13 (.var 12)))
 (.seq
 (.set 1 (.var 13))
 (.exit 1)))
 .skip))
 (.seq
 (.seq
 (.call (some 14) 165 [(.var 0), (.var 1), (.var 2), (.var 8)] [])
 (.seq
 (.chk [(.proj 1 (.var 14))])
 (.seq
 (.set 15 (.proj 0 (.var 14)))
 (.set 16 (.proj 1 (.var 14))))))
 (.seq
 (.set 5 (.var 16))
 (.seq
 (.seq
 (.chk [(.bin .sub (.var 2) (.var 15))])
 (.seq
 (.set 17 (.bin .sub (.var 15) (.var 1)))
 (.set 18 (.bin .sub (.var 2) (.var 15)))))
 (.seq
 (.set 19 (.bin .quo (.var 6) (.const (.int .i64 8))))
 (.cond (.bin .lss (.var 17) (.var 18))
 (.seq
 (.set 4 (.bin .geq (.var 17) (.var 19)))
 (.seq
 (.call none 142 [(.var 0), (.var 1), (.var 15), (.var 3)] [])
 (.set 1 (.bin .add (.var 15) (.const (.int .i64 1))))))
 (.seq
 (.set 4 (.bin .geq (.var 18) (.var 19)))
 (.seq
 (.call none 142 [(.var 0), (.bin .add (.var 15) (.const (.int .i64 1))), (.var 2), (.var 3)] [])
 (.set 2 (.var 15)))))))))))))))))))))),
  []⟩
theorem okx_142 : FnOk Tryz.prog 0 125 142 xf142 := fnOk_of Tryz.func142 (np := 4) (V := [0, 1, 2, 3, 8, 9, 10, 46, 11, 12, 72, 85, 92, 13, 99, 14, 15, 16, 17, 18]) (ks := [[0, 1, 2, 3, 4, 5]]) (by kernel_rfl)

/- math/bits.Len -/
def xf143 : XF := ⟨1, [0, 2, 5, 7],
  (.seq
 (.set 1 (.const (.int .i64 0)))
 (.seq
 (.cond (.const (.bool false))
 (.seq
 (.seq
 (.call (some 2) 166 [(.conv .u32 (.var 0))] [])
 (.set 1 (.var 2)))
 .ret)
 .skip)
 (.seq
 (.seq
 (.call (some 3) 167 [(.var 0)] [])
 (.set 1 (.var 3)))
 .ret))),
  [(.var 1)]⟩
theorem okx_143 : FnOk Tryz.prog 0 125 143 xf143 := fnOk_of Tryz.func143 (np := 1) (V := [0, 2, 5, 7]) (ks := []) (by kernel_rfl)

/- tipstaff/tnum.Down -/
def xf144 : XF := ⟨2, [0, 1, 4, 2, 8, 6, 13, 11, 9, 15],
  (.seq
 (.seq
 (.new (some 3) 71 (.var 0))
 (.new (some 2) 71 (.const (.agg #[(.int .u64 0), (.int .u64 0)]))))
 (.seq
 (.seq
 .skip
 (.seq
 (.set 5 (.ld none (.offp 0 (.var 3))))
 (.seq
 (.chk [(.var 1)])
 (.seq
 (.set 7 (.ld none (.offp 1 (.var 3))))
 (.seq
 (.call (some 4) 168 [(.var 1)] [(.ld none (.offp 1 (.var 3))), (.ld none (.offp 0 (.var 3)))])
 (.seq
 (.set 8 (.bin .shr (.var 5) (.var 4)))
 (.seq
 (.call (some 6) 168 [(.var 1)] [(.ld none (.offp 1 (.var 3))), (.ld none (.offp 0 (.var 3)))])
 (.seq
 (.call (some 9) 133 [(.var 8), (.bin .shr (.var 7) (.var 6))] [])
 (.store 2 (.var 2) (.var 9) [])))))))))
 .ret)),
  [(.ld (some 2) (.var 2))]⟩
theorem okx_144 : FnOk Tryz.prog 0 125 144 xf144 := fnOk_of Tryz.func144 (np := 2) (V := [0, 1, 4, 2, 8, 6, 13, 11, 9, 15]) (ks := []) (by kernel_rfl)

/- tipstaff/tnum.Left -/
def xf145 : XF := ⟨2, [0, 1, 4, 2, 8, 6, 13, 11, 9, 15],
  (.seq
 (.seq
 (.new (some 3) 71 (.var 0))
 (.new (some 2) 71 (.const (.agg #[(.int .u64 0), (.int .u64 0)]))))
 (.seq
 (.seq
 .skip
 (.seq
 (.set 5 (.ld none (.offp 0 (.var 3))))
 (.seq
 (.chk [(.var 1)])
 (.seq
 (.set 7 (.ld none (.offp 1 (.var 3))))
 (.seq
 (.call (some 4) 168 [(.var 1)] [(.ld none (.offp 1 (.var 3))), (.ld none (.offp 0 (.var 3)))])
 (.seq
 (.set 8 (.bin .shl (.var 5) (.var 4)))
 (.seq
 (.call (some 6) 168 [(.var 1)] [(.ld none (.offp 1 (.var 3))), (.ld none (.offp 0 (.var 3)))])
 (.seq
 (.call (some 9) 133 [(.var 8), (.bin .shl (.var 7) (.var 6))] [])
 (.store 2 (.var 2) (.var 9) [])))))))))
 .ret)),
  [(.ld (some 2) (.var 2))]⟩
theorem okx_145 : FnOk Tryz.prog 0 125 145 xf145 := fnOk_of Tryz.func145 (np := 2) (V := [0, 1, 4, 2, 8, 6, 13, 11, 9, 15]) (ks := []) (by kernel_rfl)

/- math/bits.LeadingZeros64 -/
def xf146 : XF := ⟨1, [0, 2, 4],
  (.seq
 (.set 1 (.const (.int .i64 0)))
 (.seq
 (.seq
 (.call (some 2) 167 [(.var 0)] [])
 (.set 1 (.bin .sub (.const (.int .i64 64)) (.var 2))))
 .ret)),
  [(.var 1)]⟩
theorem okx_146 : FnOk Tryz.prog 0 125 146 xf146 := fnOk_of Tryz.func146 (np := 1) (V := [0, 2, 4]) (ks := []) (by kernel_rfl)

/- tipstaff/tnum.Right -/
def xf147 : XF := ⟨1, [0, 2, 1],
  (.seq
 (.seq
 (.new (some 2) 71 (.var 0))
 (.set 1 (.const (.bool false))))
 (.seq
 (.set 1 (.bin .eql (.bin .and (.ld none (.offp 0 (.var 2))) (.ld none (.offp 1 (.var 2)))) (.const (.int .u64 0))))
 .ret)),
  [(.var 1)]⟩
theorem okx_147 : FnOk Tryz.prog 0 125 147 xf147 := fnOk_of Tryz.func147 (np := 1) (V := [0, 2, 1]) (ks := []) (by kernel_rfl)

/- (*tipstaff/scalar.Range).signs -/
def xf148 : XF := ⟨1, [0, 34, 72],
  (.seq
 (.seq
 .skip
 (.cond (.bin .leq (.conv .i64 (.ld none (.offp 2 (.nn (.var 0))))) (.conv .i64 (.ld none (.offp 3 (.nn (.var 0))))))
 (.seq
 .skip
 (.seq
 (.chk [(.mx (.ld none (.offp 4 (.nn (.var 0)))) (.conv .i64 (.ld none (.offp 2 (.nn (.var 0))))))])
 (.seq
 (.set 1 (.mn (.ld none (.offp 5 (.nn (.var 0)))) (.conv .i64 (.ld none (.offp 3 (.nn (.var 0)))))))
 (.seq
 (.store 1 (.offp 4 (.nn (.var 0))) (.mx (.ld none (.offp 4 (.nn (.var 0)))) (.conv .i64 (.ld none (.offp 2 (.nn (.var 0)))))) [])
 (.store 1 (.offp 5 (.nn (.var 0))) (.var 1) [])))))
 .skip))
 (.cond (.pick (.bin .geq (.ld none (.offp 4 (.nn (.var 0)))) (.const (.int .i64 0))) (.const (.bool true)) (.bin .lss (.ld none (.offp 5 (.nn (.var 0)))) (.const (.int .i64 0))))
 (.seq
 .skip
 (.seq
 (.chk [(.mx (.ld none (.offp 2 (.nn (.var 0)))) (.conv .u64 (.ld none (.offp 4 (.nn (.var 0))))))])
 (.seq
 (.set 2 (.mn (.ld none (.offp 3 (.nn (.var 0)))) (.conv .u64 (.ld none (.offp 5 (.nn (.var 0)))))))
 (.seq
 (.store 1 (.offp 2 (.nn (.var 0))) (.mx (.ld none (.offp 2 (.nn (.var 0)))) (.conv .u64 (.ld none (.offp 4 (.nn (.var 0)))))) [])
 (.store 1 (.offp 3 (.nn (.var 0))) (.var 2) [])))))
 .skip)),
  []⟩
theorem okx_148 : FnOk Tryz.prog 0 125 148 xf148 := fnOk_of Tryz.func148 (np := 1) (V := [0, 34, 72]) (ks := []) (by kernel_rfl)

/- tipstaff/tnum.Meet -/
def xf149 : XF := ⟨2, [0, 1, 4, 5, 2, 3, 6, 32],
  (.seq
 (.seq
 (.new (some 4) 71 (.var 0))
 (.seq
 (.new (some 5) 71 (.var 1))
 (.seq
 (.new (some 2) 71 (.const (.agg #[(.int .u64 0), (.int .u64 0)])))
 (.set 3 (.const (.bool false))))))
 (.seq
 (.set 6 (.un .xor (.bin .or (.ld none (.offp 1 (.var 4))) (.ld none (.offp 1 (.var 5))))))
 (.seq
 (.cond (.bin .neq (.bin .and (.bin .xor (.ld none (.offp 0 (.var 4))) (.ld none (.offp 0 (.var 5)))) (.var 6)) (.const (.int .u64 0)))
 (.seq
 (.seq
 (.store 2 (.var 2) (.const (.agg #[(.int .u64 0), (.int .u64 0)])) [])
 (.set 3 (.const (.bool false))))
 .ret)
 .skip)
 (.seq
 (.seq
 (.call (some 7) 133 [(.bin .or (.ld none (.offp 0 (.var 4))) (.ld none (.offp 0 (.var 5)))), (.bin .and (.ld none (.offp 1 (.var 4))) (.ld none (.offp 1 (.var 5))))] [])
 (.seq
 (.store 2 (.var 2) (.var 7) [])
 (.set 3 (.const (.bool true)))))
 .ret)))),
  [(.ld (some 2) (.var 2)), (.var 3)]⟩
theorem okx_149 : FnOk Tryz.prog 0 125 149 xf149 := fnOk_of Tryz.func149 (np := 2) (V := [0, 1, 4, 5, 2, 3, 6, 32]) (ks := []) (by kernel_rfl)

/- tipstaff/scalar.common -/
def xf150 : XF := ⟨2, [0, 1, 4, 10, 5, 6],
  (.seq
 (.new (some 2) 71 (.const (.agg #[(.int .u64 0), (.int .u64 0)])))
 (.seq
 (.seq
 (.call (some 3) 167 [(.bin .xor (.var 0) (.var 1))] [])
 (.set 4 (.var 3)))
 (.seq
 (.set 5 (.bin .sub (.bin .shl (.const (.int .u64 1)) (.var 4)) (.const (.int .u64 1))))
 (.seq
 (.cond (.bin .eql (.var 4) (.const (.int .i64 64)))
 (.set 5 (.const (.int .u64 18446744073709551615)))
 .skip)
 (.seq
 (.seq
 (.chk [(.upd 1 1 (.upd 0 1 (.const (.agg #[(.int .u64 0), (.int .u64 0)])) (.bin .andNot (.var 0) (.var 5))) (.var 5))])
 (.store 2 (.var 2) (.upd 1 1 (.upd 0 1 (.const (.agg #[(.int .u64 0), (.int .u64 0)])) (.bin .andNot (.var 0) (.var 5))) (.var 5)) []))
 .ret))))),
  [(.ld (some 2) (.var 2))]⟩
theorem okx_150 : FnOk Tryz.prog 0 125 150 xf150 := fnOk_of Tryz.func150 (np := 2) (V := [0, 1, 4, 10, 5, 6]) (ks := []) (by kernel_rfl)

/- tipstaff/branch.unsigned -/
def xf151 : XF := ⟨3, [0, 1, 2, 6, 7, 8, 13, 18, 23, 29, 34, 39],
  (.seq
 (.set 3 (.const (.bool false)))
 (.seq
 (.seq
 (.set 4 (.var 0))
 (.block 0
 (.seq
 (.set 5 (.bin .eql (.var 4) (.const (.int .i64 1))))
 (.cond (.var 5)
 (.seq
 (.set 3 (.bin .eql (.var 1) (.var 2)))
 .ret)
 (.seq
 (.set 6 (.bin .eql (.var 4) (.const (.int .i64 2))))
 (.cond (.var 6)
 (.seq
 (.set 3 (.bin .gtr (.var 1) (.var 2)))
 .ret)
 (.seq
 (.set 7 (.bin .eql (.var 4) (.const (.int .i64 3))))
 (.cond (.var 7)
 (.seq
 (.set 3 (.bin .geq (.var 1) (.var 2)))
 .ret)
 (.seq
 (.set 8 (.bin .eql (.var 4) (.const (.int .i64 4))))
 (.cond (.var 8)
 (.seq
 (.set 3 (.bin .neq (.bin .and (.var 1) (.var 2)) (.const (.int .u64 0))))
 .ret)
 (.seq
 (.set 9 (.bin .eql (.var 4) (.const (.int .i64 5))))
 (.cond (.var 9)
 (.seq
 (.set 3 (.bin .neq (.var 1) (.var 2)))
 .ret)
 (.seq
 (.set 10 (.bin .eql (.var 4) (.const (.int .i64 10))))
 (.cond (.var 10)
 (.seq
 (.set 3 (.bin .lss (.var 1) (.var 2)))
 .ret)
 (.seq
 (.set 11 (.bin .eql (.var 4) (.const (.int .i64 11))))
 (.cond (.var 11)
 (.seq
 (.set 3 (.bin .leq (.var 1) (.var 2)))
 .ret)
 .skip))))))))))))))))
 (.seq
 (.set 3 (.const (.bool false)))
 .ret))),
  [(.var 3)]⟩
theorem okx_151 : FnOk Tryz.prog 0 125 151 xf151 := fnOk_of Tryz.func151 (np := 3) (V := [0, 1, 2, 6, 7, 8, 13, 18, 23, 29, 34, 39]) (ks := []) (by kernel_rfl)

/- tipstaff/branch.same -/
def xf152 : XF := ⟨1, [0, 2, 3, 1, 14, 4, 5, 6, 49, 53],
  (.seq
 (.seq
 (.new (some 3) 175 (.var 0))
 (.seq
 (.new (some 1) 175 (.const zA5))
 (.set 2 (.const (.bool false)))))
 (.seq
 (.seq
 (.call (some 4) 149 [(.ld (some 2) (.offp 0 (.offp 0 (.var 3)))), (.ld (some 2) (.offp 0 (.offp 6 (.var 3))))] [])
 (.seq
 (.chk [(.proj 1 (.var 4)), (.proj 0 (.var 4))])
 (.seq
 (.new (some 5) 71 (.const (.agg #[(.int .u64 0), (.int .u64 0)])))
 (.seq
 (.store 2 (.var 5) (.proj 0 (.var 4)) [])
 (.set 6 (.proj 1 (.var 4)))))))
 (.seq
 (.cond (.un .not (.var 6))
 (.seq
 (.seq
 (.store 12 (.var 1) (.const zA5) [])
 (.set 2 (.const (.bool false))))
 .ret)
 .skip)
 (.seq
 (.seq
 (.set 8 (.upd 5 1 (.upd 4 1 (.upd 3 1 (.upd 2 1 (.upd 0 2 (.const zA2) (.ld (some 2) (.var 5))) (.mx (.ld none (.offp 2 (.offp 0 (.var 3)))) (.ld none (.offp 2 (.offp 6 (.var 3)))))) (.mn (.ld none (.offp 3 (.offp 0 (.var 3)))) (.ld none (.offp 3 (.offp 6 (.var 3)))))) (.mx (.ld none (.offp 4 (.offp 0 (.var 3)))) (.ld none (.offp 4 (.offp 6 (.var 3)))))) (.mn (.ld none (.offp 5 (.offp 0 (.var 3)))) (.ld none (.offp 5 (.offp 6 (.var 3)))))))
 (.seq
 (.new (some 7) 73 (.const zA2))
 (.store 6 (.var 7) (.var 8) [])))
 (.seq
 (.seq
 (.chk [(.upd 6 6 (.upd 0 6 (.const zA5) (.ld (some 6) (.var 7))) (.ld (some 6) (.var 7)))])
 (.seq
 (.call (some 9) 135 [(.upd 6 6 (.upd 0 6 (.const zA5) (.ld (some 6) (.var 7))) (.ld (some 6) (.var 7)))] [])
 (.seq
 (.chk [(.proj 1 (.var 9))])
 (.seq
 (.store 12 (.var 1) (.proj 0 (.var 9)) [])
 (.set 2 (.proj 1 (.var 9)))))))
 .ret))))),
  [(.ld (some 12) (.var 1)), (.var 2)]⟩
theorem okx_152 : FnOk Tryz.prog 0 125 152 xf152 := fnOk_of Tryz.func152 (np := 1) (V := [0, 2, 3, 1, 14, 4, 5, 6, 49, 53]) (ks := []) (by kernel_rfl)

/- tipstaff/branch.other -/
def xf153 : XF := ⟨1, [0, 2, 3, 1, 4, 7, 14, 22, 30, 38],
  (.seq
 (.seq
 (.new (some 3) 175 (.var 0))
 (.seq
 (.new (some 1) 175 (.const zA5))
 (.set 2 (.const (.bool false)))))
 (.seq
 (.set 4 (.const (.bool true)))
 (.seq
 (.seq
 (.call (some 5) 169 [(.ld (some 6) (.offp 6 (.var 3)))] [])
 (.cond (.var 5)
 (.seq
 (.call (some 6) 170 [(.ld (some 6) (.offp 0 (.var 3))), (.ld none (.offp 2 (.offp 6 (.var 3))))] [])
 (.seq
 (.chk [(.proj 1 (.var 6))])
 (.seq
 (.store 6 (.offp 0 (.var 3)) (.proj 0 (.var 6)) [])
 (.set 4 (.proj 1 (.var 6))))))
 .skip))
 (.seq
 (.seq
 (.seq
 (.chk [(.pick (.var 4) (.ld (some 6) (.offp 0 (.var 3))) (.const (.bool false)))])
 (.cond (.pick (.var 4) (.const (.bool true)) (.const (.bool false)))
 (.call (some 7) 169 [(.ld (some 6) (.offp 0 (.var 3)))] [])
 (.clr [7])))
 (.cond (.pick (.var 4) (.var 7) (.const (.bool false)))
 (.seq
 (.call (some 8) 170 [(.ld (some 6) (.offp 6 (.var 3))), (.ld none (.offp 2 (.offp 0 (.var 3))))] [])
 (.seq
 (.chk [(.proj 1 (.var 8))])
 (.seq
 (.store 6 (.offp 6 (.var 3)) (.proj 0 (.var 8)) [])
 (.set 4 (.proj 1 (.var 8))))))
 .skip))
 (.seq
 (.cond (.un .not (.var 4))
 (.seq
 (.seq
 (.store 12 (.var 1) (.const zA5) [])
 (.set 2 (.const (.bool false))))
 .ret)
 .skip)
 (.seq
 (.seq
 (.call (some 9) 135 [(.ld (some 12) (.var 3))] [])
 (.seq
 (.chk [(.proj 1 (.var 9))])
 (.seq
 (.store 12 (.var 1) (.proj 0 (.var 9)) [])
 (.set 2 (.proj 1 (.var 9))))))
 .ret)))))),
  [(.ld (some 12) (.var 1)), (.var 2)]⟩
theorem okx_153 : FnOk Tryz.prog 0 125 153 xf153 := fnOk_of Tryz.func153 (np := 1) (V := [0, 2, 3, 1, 4, 7, 14, 22, 30, 38]) (ks := []) (by kernel_rfl)

/- tipstaff/branch.greater -/
def xf154 : XF := ⟨2, [0, 1, 4, 5, 2, 6, 45],
  (.seq
 (.seq
 (.new (some 4) 175 (.var 0))
 (.seq
 (.new (some 2) 175 (.const zA5))
 (.set 3 (.const (.bool false)))))
 (.seq
 (.set 5 (.const (.int .u64 0)))
 (.seq
 (.cond (.var 1)
 (.set 5 (.const (.int .u64 1)))
 .skip)
 (.seq
 (.cond (.pick (.var 1) (.pick (.bin .eql (.ld none (.offp 2 (.offp 6 (.var 4)))) (.const (.int .u64 18446744073709551615))) (.const (.bool true)) (.bin .eql (.ld none (.offp 3 (.offp 0 (.var 4)))) (.const (.int .u64 0)))) (.const (.bool false)))
 (.seq
 (.seq
 (.store 12 (.var 2) (.const zA5) [])
 (.set 3 (.const (.bool false))))
 .ret)
 .skip)
 (.seq
 (.store 1 (.offp 2 (.offp 0 (.var 4))) (.mx (.ld none (.offp 2 (.offp 0 (.var 4)))) (.bin .add (.ld none (.offp 2 (.offp 6 (.var 4)))) (.var 5))) [])
 (.seq
 (.store 1 (.offp 3 (.offp 6 (.var 4))) (.mn (.ld none (.offp 3 (.offp 6 (.var 4)))) (.bin .sub (.ld none (.offp 3 (.offp 0 (.var 4)))) (.var 5))) [])
 (.seq
 (.seq
 (.call (some 6) 135 [(.ld (some 12) (.var 4))] [])
 (.seq
 (.chk [(.proj 1 (.var 6))])
 (.seq
 (.store 12 (.var 2) (.proj 0 (.var 6)) [])
 (.set 3 (.proj 1 (.var 6))))))
 .ret))))))),
  [(.ld (some 12) (.var 2)), (.var 3)]⟩
theorem okx_154 : FnOk Tryz.prog 0 125 154 xf154 := fnOk_of Tryz.func154 (np := 2) (V := [0, 1, 4, 5, 2, 6, 45]) (ks := []) (by kernel_rfl)

/- tipstaff/branch.turned -/
def xf155 : XF := ⟨3, [0, 1, 2, 6, 7, 3, 13, 15, 8, 9, 19],
  (.seq
 (.seq
 (.new (some 5) 175 (.var 0))
 (.seq
 (.new (some 3) 175 (.const zA5))
 (.set 4 (.const (.bool false)))))
 (.seq
 (.seq
 (.chk [(.var 1)])
 (.seq
 (.call (some 6) 171 [(.ld (some 12) (.var 5))] [])
 (.seq
 (.dyn (some 7) (.var 1) [(.var 6), (.var 2)] [])
 (.seq
 (.chk [(.proj 1 (.var 7)), (.proj 0 (.var 7))])
 (.seq
 (.new (some 8) 175 (.const zA5))
 (.seq
 (.store 12 (.var 8) (.proj 0 (.var 7)) [])
 (.set 9 (.proj 1 (.var 7)))))))))
 (.seq
 (.seq
 (.call (some 10) 171 [(.ld (some 12) (.var 8))] [])
 (.seq
 (.chk [(.var 9)])
 (.seq
 (.store 12 (.var 3) (.var 10) [])
 (.set 4 (.var 9)))))
 .ret))),
  [(.ld (some 12) (.var 3)), (.var 4)]⟩
theorem okx_155 : FnOk Tryz.prog 0 125 155 xf155 := fnOk_of Tryz.func155 (np := 3) (V := [0, 1, 2, 6, 7, 3, 13, 15, 8, 9, 19]) (ks := []) (by kernel_rfl)

/- tipstaff/branch.sGreater -/
def xf156 : XF := ⟨2, [0, 1, 4, 5, 2, 6, 45],
  (.seq
 (.seq
 (.new (some 4) 175 (.var 0))
 (.seq
 (.new (some 2) 175 (.const zA5))
 (.set 3 (.const (.bool false)))))
 (.seq
 (.set 5 (.const (.int .i64 0)))
 (.seq
 (.cond (.var 1)
 (.set 5 (.const (.int .i64 1)))
 .skip)
 (.seq
 (.cond (.pick (.var 1) (.pick (.bin .eql (.ld none (.offp 4 (.offp 6 (.var 4)))) (.const (.int .i64 9223372036854775807))) (.const (.bool true)) (.bin .eql (.ld none (.offp 5 (.offp 0 (.var 4)))) (.const (.int .i64 (-9223372036854775808))))) (.const (.bool false)))
 (.seq
 (.seq
 (.store 12 (.var 2) (.const zA5) [])
 (.set 3 (.const (.bool false))))
 .ret)
 .skip)
 (.seq
 (.store 1 (.offp 4 (.offp 0 (.var 4))) (.mx (.ld none (.offp 4 (.offp 0 (.var 4)))) (.bin .add (.ld none (.offp 4 (.offp 6 (.var 4)))) (.var 5))) [])
 (.seq
 (.store 1 (.offp 5 (.offp 6 (.var 4))) (.mn (.ld none (.offp 5 (.offp 6 (.var 4)))) (.bin .sub (.ld none (.offp 5 (.offp 0 (.var 4)))) (.var 5))) [])
 (.seq
 (.seq
 (.call (some 6) 135 [(.ld (some 12) (.var 4))] [])
 (.seq
 (.chk [(.proj 1 (.var 6))])
 (.seq
 (.store 12 (.var 2) (.proj 0 (.var 6)) [])
 (.set 3 (.proj 1 (.var 6))))))
 .ret))))))),
  [(.ld (some 12) (.var 2)), (.var 3)]⟩
theorem okx_156 : FnOk Tryz.prog 0 125 156 xf156 := fnOk_of Tryz.func156 (np := 2) (V := [0, 1, 4, 5, 2, 6, 45]) (ks := []) (by kernel_rfl)

/- slices.insertionSortOrdered[int] -/
def xf157 : XF := ⟨3, [0, 1, 2, 6, 7, 29, 46],
  (.seq
 (.set 3 (.bin .add (.var 1) (.const (.int .i64 1))))
 (.block 0
 (.loop [0, 1, 2, 3]
 (.seq
 (.cond (.bin .lss (.var 3) (.var 2))
 .skip
 (.exit 0))
 (.seq
 (.block 1
 (.seq
 (.set 4 (.var 3))
 (.block 2
 (.loop [0, 1, 2, 3, 4]
 (.seq
 (.seq
 (.seq
 .skip
 (.seq
 (.chk [(.pick (.bin .gtr (.var 4) (.var 1)) (.ld none (.ixSl 1 (.var 0) (.bin .sub (.var 4) (.const (.int .i64 1))))) (.const (.bool false))), (.pick (.bin .gtr (.var 4) (.var 1)) (.ld none (.ixSl 1 (.var 0) (.var 4))) (.const (.bool false)))])
 (.cond (.pick (.bin .gtr (.var 4) (.var 1)) (.const (.bool true)) (.const (.bool false)))
 (.call (some 5) 163 [(.ld none (.ixSl 1 (.var 0) (.var 4))), (.ld none (.ixSl 1 (.var 0) (.bin .sub (.var 4) (.const (.int .i64 1)))))] [])
 (.clr [5]))))
 (.cond (.pick (.bin .gtr (.var 4) (.var 1)) (.var 5) (.const (.bool false)))
 .skip
 (.exit 2)))
 (.seq
 (.block 3
 (.seq
 .skip
 (.seq
 (.chk [(.ld none (.ixSl 1 (.var 0) (.bin .sub (.var 4) (.const (.int .i64 1)))))])
 (.seq
 (.set 6 (.ld none (.ixSl 1 (.var 0) (.var 4))))
 (.seq
 (.store 1 (.ixSl 1 (.var 0) (.var 4)) (.ld none (.ixSl 1 (.var 0) (.bin .sub (.var 4) (.const (.int .i64 1))))) [])
 (.store 1 (.ixSl 1 (.var 0) (.bin .sub (.var 4) (.const (.int .i64 1)))) (.var 6) []))))))
 (.set 4 (.bin .sub (.var 4) (.const (.int .i64 1))))))))))
 (.set 3 (.bin .add (.var 3) (.const (.int .i64 1))))))))),
  []⟩
theorem okx_157 : FnOk Tryz.prog 0 125 157 xf157 := fnOk_of Tryz.func157 (np := 3) (V := [0, 1, 2, 6, 7, 29, 46]) (ks := [[0, 1, 2, 3], [0, 1, 2, 3, 4]]) (by kernel_rfl)

/- slices.heapSortOrdered[int] -/
def xf158 : XF := ⟨3, [0, 1, 2, 6, 7, 8, 9, 10, 48],
  (.seq
 (.set 3 (.var 1))
 (.seq
 (.set 4 (.const (.int .i64 0)))
 (.seq
 (.set 5 (.bin .sub (.var 2) (.var 1)))
 (.seq
 (.seq
 (.set 6 (.bin .quo (.bin .sub (.var 5) (.const (.int .i64 1))) (.const (.int .i64 2))))
 (.block 0
 (.loop [0, 3, 4, 5, 6]
 (.seq
 (.cond (.bin .geq (.var 6) (.const (.int .i64 0)))
 .skip
 (.exit 0))
 (.seq
 (.block 1
 (.call none 172 [(.var 0), (.var 6), (.var 5), (.var 3)] []))
 (.set 6 (.bin .sub (.var 6) (.const (.int .i64 1)))))))))
 (.seq
 (.set 7 (.bin .sub (.var 5) (.const (.int .i64 1))))
 (.block 2
 (.loop [0, 3, 4, 7]
 (.seq
 (.cond (.bin .geq (.var 7) (.const (.int .i64 0)))
 .skip
 (.exit 2))
 (.seq
 (.block 3
 (.seq
 (.seq
 .skip
 (.seq
 (.chk [(.ld none (.ixSl 1 (.var 0) (.bin .add (.var 3) (.var 7))))])
 (.seq
 (.set 8 (.ld none (.ixSl 1 (.var 0) (.var 3))))
 (.seq
 (.store 1 (.ixSl 1 (.var 0) (.var 3)) (.ld none (.ixSl 1 (.var 0) (.bin .add (.var 3) (.var 7)))) [])
 (.store 1 (.ixSl 1 (.var 0) (.bin .add (.var 3) (.var 7))) (.var 8) [])))))
 (.call none 172 [(.var 0), (.var 4), (.var 7), (.var 3)] [])))
 (.set 7 (.bin .sub (.var 7) (.const (.int .i64 1))))))))))))),
  []⟩
theorem okx_158 : FnOk Tryz.prog 0 125 158 xf158 := fnOk_of Tryz.func158 (np := 3) (V := [0, 1, 2, 6, 7, 8, 9, 10, 48]) (ks := [[0, 3, 4, 5, 6], [0, 3, 4, 7]]) (by kernel_rfl)

/- slices.breakPatternsOrdered[int] -/
def xf159 : XF := ⟨3, [0, 1, 2, 6, 7, 17, 19, 8, 9, 36, 10, 62],
  (.seq
 (.set 3 (.bin .sub (.var 2) (.var 1)))
 (.cond (.bin .geq (.var 3) (.const (.int .i64 8)))
 (.seq
 (.seq
 (.set 5 (.conv .u64 (.var 3)))
 (.seq
 (.new (some 4) 220 (.const (.int .u64 0)))
 (.store 1 (.var 4) (.var 5) [])))
 (.seq
 (.seq
 (.call (some 6) 173 [(.var 3)] [])
 (.set 7 (.var 6)))
 (.seq
 (.set 8 (.bin .sub (.bin .add (.var 1) (.bin .mul (.bin .quo (.var 3) (.const (.int .i64 4))) (.const (.int .i64 2)))) (.const (.int .i64 1))))
 (.block 0
 (.loop [0, 1, 3, 4, 7, 8]
 (.seq
 (.cond (.bin .leq (.var 8) (.bin .add (.bin .add (.var 1) (.bin .mul (.bin .quo (.var 3) (.const (.int .i64 4))) (.const (.int .i64 2)))) (.const (.int .i64 1))))
 .skip
 (.exit 0))
 (.seq
 (.block 1
 (.seq
 (.seq
 (.call (some 9) 174 [(.var 4)] [])
 (.set 10 (.conv .i64 (.bin .and (.var 9) (.bin .sub (.var 7) (.const (.int .u64 1)))))))
 (.seq
 (.cond (.bin .geq (.var 10) (.var 3))
 (.set 10 (.bin .sub (.var 10) (.var 3)))
 .skip)
 (.seq
 .skip
 (.seq
 (.chk [(.ld none (.ixSl 1 (.var 0) (.bin .add (.var 1) (.var 10))))])
 (.seq
 (.set 11 (.ld none (.ixSl 1 (.var 0) (.var 8))))
 (.seq
 (.store 1 (.ixSl 1 (.var 0) (.var 8)) (.ld none (.ixSl 1 (.var 0) (.bin .add (.var 1) (.var 10)))) [])
 (.store 1 (.ixSl 1 (.var 0) (.bin .add (.var 1) (.var 10))) (.var 11) []))))))))
 (.set 8 (.bin .add (.var 8) (.const (.int .i64 1)))))))))))
 .skip)),
  []⟩
theorem okx_159 : FnOk Tryz.prog 0 125 159 xf159 := fnOk_of Tryz.func159 (np := 3) (V := [0, 1, 2, 6, 7, 17, 19, 8, 9, 36, 10, 62]) (ks := [[0, 1, 3, 4, 7, 8]]) (by kernel_rfl)

/- slices.choosePivotOrdered[int] -/
def xf160 : XF := ⟨3, [0, 1, 2, 6, 7, 8, 9, 10, 11, 12, 37, 40, 43, 48, 49, 51, 54],
  (.seq
 (.seq
 (.set 3 (.const (.int .i64 0)))
 (.set 4 (.const (.int .i64 0))))
 (.seq
 (.set 5 (.bin .sub (.var 2) (.var 1)))
 (.seq
 (.new (some 6) 3 (.const (.int .i64 0)))
 (.seq
 (.set 7 (.bin .add (.var 1) (.bin .mul (.bin .quo (.var 5) (.const (.int .i64 4))) (.const (.int .i64 1)))))
 (.seq
 (.set 8 (.bin .add (.var 1) (.bin .mul (.bin .quo (.var 5) (.const (.int .i64 4))) (.const (.int .i64 2)))))
 (.seq
 (.set 9 (.bin .add (.var 1) (.bin .mul (.bin .quo (.var 5) (.const (.int .i64 4))) (.const (.int .i64 3)))))
 (.seq
 (.cond (.bin .geq (.var 5) (.const (.int .i64 8)))
 (.seq
 (.cond (.bin .geq (.var 5) (.const (.int .i64 50)))
 (.seq
 (.seq
 (.call (some 10) 175 [(.var 0), (.var 7), (.var 6)] [])
 (.set 7 (.var 10)))
 (.seq
 (.seq
 (.call (some 11) 175 [(.var 0), (.var 8), (.var 6)] [])
 (.set 8 (.var 11)))
 (.seq
 (.call (some 12) 175 [(.var 0), (.var 9), (.var 6)] [])
 (.set 9 (.var 12)))))
 .skip)
 (.seq
 (.call (some 13) 176 [(.var 0), (.var 7), (.var 8), (.var 9), (.var 6)] [])
 (.set 8 (.var 13))))
 .skip)
 (.seq
 (.set 14 (.ld none (.var 6)))
 (.block 0
 (.seq
 (.set 15 (.bin .eql (.var 14) (.const (.int .i64 0))))
 (.cond (.var 15)
 (.seq
 (.seq
 (.set 3 (.var 8))
 (.set 4 (.const (.int .i64 1))))
 .ret)
 (.seq
 (.set 16 (.bin .eql (.var 14) (.const (.int .i64 12))))
 (.cond (.var 16)
 (.seq
 (.seq
 (.set 3 (.var 8))
 (.set 4 (.const (.int .i64 2))))
 .ret)
 (.seq
 (.seq
 (.set 3 (.var 8))
 (.set 4 (.const (.int .i64 0))))
 .ret)))))))))))))),
  [(.var 3), (.var 4)]⟩
theorem okx_160 : FnOk Tryz.prog 0 125 160 xf160 := fnOk_of Tryz.func160 (np := 3) (V := [0, 1, 2, 6, 7, 8, 9, 10, 11, 12, 37, 40, 43, 48, 49, 51, 54]) (ks := []) (by kernel_rfl)

/- slices.reverseRangeOrdered[int] -/
def xf161 : XF := ⟨3, [0, 1, 2, 6, 7, 25],
  (.seq
 (.set 3 (.var 1))
 (.seq
 (.set 4 (.bin .sub (.var 2) (.const (.int .i64 1))))
 (.block 0
 (.loop [0, 3, 4]
 (.seq
 (.cond (.bin .lss (.var 3) (.var 4))
 .skip
 (.exit 0))
 (.block 1
 (.seq
 (.seq
 .skip
 (.seq
 (.chk [(.ld none (.ixSl 1 (.var 0) (.var 4)))])
 (.seq
 (.set 5 (.ld none (.ixSl 1 (.var 0) (.var 3))))
 (.seq
 (.store 1 (.ixSl 1 (.var 0) (.var 3)) (.ld none (.ixSl 1 (.var 0) (.var 4))) [])
 (.store 1 (.ixSl 1 (.var 0) (.var 4)) (.var 5) [])))))
 (.seq
 (.set 3 (.bin .add (.var 3) (.const (.int .i64 1))))
 (.set 4 (.bin .sub (.var 4) (.const (.int .i64 1)))))))))))),
  []⟩
theorem okx_161 : FnOk Tryz.prog 0 125 161 xf161 := fnOk_of Tryz.func161 (np := 3) (V := [0, 1, 2, 6, 7, 25]) (ks := [[0, 3, 4]]) (by kernel_rfl)

/- slices.partialInsertionSortOrdered[int] -/
def xf162 : XF := ⟨3, [0, 1, 2, 6, 7, 8, 30, 55, 9, 77, 92, 10, 115, 130],
  (.seq
 (.set 3 (.const (.bool false)))
 (.seq
 (.set 4 (.bin .add (.var 1) (.const (.int .i64 1))))
 (.seq
 (.seq
 (.set 5 (.const (.int .i64 0)))
 (.block 0
 (.loop [0, 1, 2, 4, 5]
 (.seq
 (.cond (.bin .lss (.var 5) (.const (.int .i64 5)))
 .skip
 (.exit 0))
 (.seq
 (.block 1
 (.seq
 (.block 2
 (.loop [0, 1, 2, 4, 5]
 (.seq
 (.seq
 (.seq
 .skip
 (.seq
 (.chk [(.pick (.bin .lss (.var 4) (.var 2)) (.ld none (.ixSl 1 (.var 0) (.bin .sub (.var 4) (.const (.int .i64 1))))) (.const (.bool false))), (.pick (.bin .lss (.var 4) (.var 2)) (.ld none (.ixSl 1 (.var 0) (.var 4))) (.const (.bool false)))])
 (.cond (.pick (.bin .lss (.var 4) (.var 2)) (.const (.bool true)) (.const (.bool false)))
 (.call (some 6) 163 [(.ld none (.ixSl 1 (.var 0) (.var 4))), (.ld none (.ixSl 1 (.var 0) (.bin .sub (.var 4) (.const (.int .i64 1)))))] [])
 (.clr [6]))))
 (.cond (.pick (.bin .lss (.var 4) (.var 2)) (.un .not (.var 6)) (.const (.bool false)))
 .skip
 (.exit 2)))
 (.block 3
 (.set 4 (.bin .add (.var 4) (.const (.int .i64 1))))))))
 (.seq
 (.cond (.bin .eql (.var 4) (.var 2))
 (.seq
 (.set 3 (.const (.bool true)))
 .ret)
 .skip)
 (.seq
 (.cond (.bin .lss (.bin .sub (.var 2) (.var 1)) (.const (.int .i64 50)))
 (.seq
 (.set 3 (.const (.bool false)))
 .ret)
 .skip)
 (.seq
 (.seq
 .skip
 (.seq
 (.chk [(.ld none (.ixSl 1 (.var 0) (.bin .sub (.var 4) (.const (.int .i64 1)))))])
 (.seq
 (.set 7 (.ld none (.ixSl 1 (.var 0) (.var 4))))
 (.seq
 (.store 1 (.ixSl 1 (.var 0) (.var 4)) (.ld none (.ixSl 1 (.var 0) (.bin .sub (.var 4) (.const (.int .i64 1))))) [])
 (.store 1 (.ixSl 1 (.var 0) (.bin .sub (.var 4) (.const (.int .i64 1)))) (.var 7) [])))))
 (.seq
 (.cond (.bin .geq (.bin .sub (.var 4) (.var 1)) (.const (.int .i64 2)))
 (.seq
 (.set 8 (.bin .sub (.var 4) (.const (.int .i64 1))))
 (.block 4
 (.loop [0, 1, 2, 4, 5, 8]
 (.seq
 (.cond (.bin .geq (.var 8) (.const (.int .i64 1)))
 .skip
 (.exit 4))
 (.seq
 (.block 5
 (.seq
 (.seq
 (.seq
 .skip
 (.call (some 9) 163 [(.ld none (.ixSl 1 (.var 0) (.var 8))), (.ld none (.ixSl 1 (.var 0) (.bin .sub (.var 8) (.const (.int .i64 1)))))] []))
 (.cond (.un .not (.var 9))
 (.exit 4)
 .skip))
 (.seq
 .skip
 (.seq
 (.chk [(.ld none (.ixSl 1 (.var 0) (.bin .sub (.var 8) (.const (.int .i64 1)))))])
 (.seq
 (.set 10 (.ld none (.ixSl 1 (.var 0) (.var 8))))
 (.seq
 (.store 1 (.ixSl 1 (.var 0) (.var 8)) (.ld none (.ixSl 1 (.var 0) (.bin .sub (.var 8) (.const (.int .i64 1))))) [])
 (.store 1 (.ixSl 1 (.var 0) (.bin .sub (.var 8) (.const (.int .i64 1)))) (.var 10) [])))))))
 (.set 8 (.bin .sub (.var 8) (.const (.int .i64 1)))))))))
 .skip)
 (.cond (.bin .geq (.bin .sub (.var 2) (.var 4)) (.const (.int .i64 2)))
 (.seq
 (.set 11 (.bin .add (.var 4) (.const (.int .i64 1))))
 (.block 6
 (.loop [0, 1, 2, 4, 5, 11]
 (.seq
 (.cond (.bin .lss (.var 11) (.var 2))
 .skip
 (.exit 6))
 (.seq
 (.block 7
 (.seq
 (.seq
 (.seq
 .skip
 (.call (some 12) 163 [(.ld none (.ixSl 1 (.var 0) (.var 11))), (.ld none (.ixSl 1 (.var 0) (.bin .sub (.var 11) (.const (.int .i64 1)))))] []))
 (.cond (.un .not (.var 12))
 (.exit 6)
 .skip))
 (.seq
 .skip
 (.seq
 (.chk [(.ld none (.ixSl 1 (.var 0) (.bin .sub (.var 11) (.const (.int .i64 1)))))])
 (.seq
 (.set 13 (.ld none (.ixSl 1 (.var 0) (.var 11))))
 (.seq
 (.store 1 (.ixSl 1 (.var 0) (.var 11)) (.ld none (.ixSl 1 (.var 0) (.bin .sub (.var 11) (.const (.int .i64 1))))) [])
 (.store 1 (.ixSl 1 (.var 0) (.bin .sub (.var 11) (.const (.int .i64 1)))) (.var 13) [])))))))
 (.set 11 (.bin .add (.var 11) (.const (.int .i64 1)))))))))
 .skip)))))))
 (.set 5 (.bin .add (.var 5) (.const (.int .i64 1)))))))))
 (.seq
 (.set 3 (.const (.bool false)))
 .ret)))),
  [(.var 3)]⟩
theorem okx_162 : FnOk Tryz.prog 0 125 162 xf162 := fnOk_of Tryz.func162 (np := 3) (V := [0, 1, 2, 6, 7, 8, 30, 55, 9, 77, 92, 10, 115, 130]) (ks := [[0, 1, 2, 4, 5], [0, 1, 2, 4, 5], [0, 1, 2, 4, 5, 8], [0, 1, 2, 4, 5, 11]]) (by kernel_rfl)

/- cmp.Less[int] -/
def xf163 : XF := ⟨2, [0, 1, 4, 6, 9],
  (.seq
 (.set 2 (.const (.bool false)))
 (.seq
 (.seq
 (.call (some 3) 177 [(.var 0)] [])
 (.seq
 (.chk [(.pick (.var 3) (.var 1) (.const (.bool false)))])
 (.seq
 (.cond (.pick (.var 3) (.const (.bool true)) (.const (.bool false)))
 (.call (some 4) 177 [(.var 1)] [])
 (.clr [4]))
 (.set 2 (.pick (.pick (.var 3) (.un .not (.var 4)) (.const (.bool false))) (.const (.bool true)) (.bin .lss (.var 0) (.var 1)))))))
 .ret)),
  [(.var 2)]⟩
theorem okx_163 : FnOk Tryz.prog 0 125 163 xf163 := fnOk_of Tryz.func163 (np := 2) (V := [0, 1, 4, 6, 9]) (ks := []) (by kernel_rfl)

/- slices.partitionEqualOrdered[int] -/
def xf164 : XF := ⟨4, [0, 1, 2, 3, 8, 22, 9, 10, 41, 58, 76],
  (.seq
 (.set 4 (.const (.int .i64 0)))
 (.seq
 (.seq
 .skip
 (.seq
 (.chk [(.ld none (.ixSl 1 (.var 0) (.var 3)))])
 (.seq
 (.set 5 (.ld none (.ixSl 1 (.var 0) (.var 1))))
 (.seq
 (.store 1 (.ixSl 1 (.var 0) (.var 1)) (.ld none (.ixSl 1 (.var 0) (.var 3))) [])
 (.store 1 (.ixSl 1 (.var 0) (.var 3)) (.var 5) [])))))
 (.seq
 (.seq
 (.chk [(.bin .sub (.var 2) (.const (.int .i64 1)))])
 (.seq
 (.set 6 (.bin .add (.var 1) (.const (.int .i64 1))))
 (.set 7 (.bin .sub (.var 2) (.const (.int .i64 1))))))
 (.seq
 (.block 0
 (.loop [0, 1, 6, 7]
 (.block 1
 (.seq
 (.block 2
 (.loop [0, 1, 6, 7]
 (.seq
 (.seq
 (.seq
 .skip
 (.seq
 (.chk [(.pick (.bin .leq (.var 6) (.var 7)) (.ld none (.ixSl 1 (.var 0) (.var 6))) (.const (.bool false))), (.pick (.bin .leq (.var 6) (.var 7)) (.ld none (.ixSl 1 (.var 0) (.var 1))) (.const (.bool false)))])
 (.cond (.pick (.bin .leq (.var 6) (.var 7)) (.const (.bool true)) (.const (.bool false)))
 (.call (some 8) 163 [(.ld none (.ixSl 1 (.var 0) (.var 1))), (.ld none (.ixSl 1 (.var 0) (.var 6)))] [])
 (.clr [8]))))
 (.cond (.pick (.bin .leq (.var 6) (.var 7)) (.un .not (.var 8)) (.const (.bool false)))
 .skip
 (.exit 2)))
 (.block 3
 (.set 6 (.bin .add (.var 6) (.const (.int .i64 1))))))))
 (.seq
 (.block 4
 (.loop [0, 1, 6, 7]
 (.seq
 (.seq
 (.seq
 .skip
 (.seq
 (.chk [(.pick (.bin .leq (.var 6) (.var 7)) (.ld none (.ixSl 1 (.var 0) (.var 7))) (.const (.bool false))), (.pick (.bin .leq (.var 6) (.var 7)) (.ld none (.ixSl 1 (.var 0) (.var 1))) (.const (.bool false)))])
 (.cond (.pick (.bin .leq (.var 6) (.var 7)) (.const (.bool true)) (.const (.bool false)))
 (.call (some 9) 163 [(.ld none (.ixSl 1 (.var 0) (.var 1))), (.ld none (.ixSl 1 (.var 0) (.var 7)))] [])
 (.clr [9]))))
 (.cond (.pick (.bin .leq (.var 6) (.var 7)) (.var 9) (.const (.bool false)))
 .skip
 (.exit 4)))
 (.block 5
 (.set 7 (.bin .sub (.var 7) (.const (.int .i64 1))))))))
 (.seq
 (.cond (.bin .gtr (.var 6) (.var 7))
 (.exit 0)
 .skip)
 (.seq
 (.seq
 .skip
 (.seq
 (.chk [(.ld none (.ixSl 1 (.var 0) (.var 7)))])
 (.seq
 (.set 10 (.ld none (.ixSl 1 (.var 0) (.var 6))))
 (.seq
 (.store 1 (.ixSl 1 (.var 0) (.var 6)) (.ld none (.ixSl 1 (.var 0) (.var 7))) [])
 (.store 1 (.ixSl 1 (.var 0) (.var 7)) (.var 10) [])))))
 (.seq
 (.set 6 (.bin .add (.var 6) (.const (.int .i64 1))))
 (.set 7 (.bin .sub (.var 7) (.const (.int .i64 1))))))))))))
 (.seq
 (.set 4 (.var 6))
 .ret))))),
  [(.var 4)]⟩
theorem okx_164 : FnOk Tryz.prog 0 125 164 xf164 := fnOk_of Tryz.func164 (np := 4) (V := [0, 1, 2, 3, 8, 22, 9, 10, 41, 58, 76]) (ks := [[0, 1, 6, 7], [0, 1, 6, 7], [0, 1, 6, 7]]) (by kernel_rfl)

/- slices.partitionOrdered[int] -/
def xf165 : XF := ⟨4, [0, 1, 2, 3, 8, 9, 23, 10, 11, 42, 58, 77, 92, 111, 127, 146, 164],
  (.seq
 (.seq
 (.set 4 (.const (.int .i64 0)))
 (.set 5 (.const (.bool false))))
 (.seq
 (.seq
 .skip
 (.seq
 (.chk [(.ld none (.ixSl 1 (.var 0) (.var 3)))])
 (.seq
 (.set 6 (.ld none (.ixSl 1 (.var 0) (.var 1))))
 (.seq
 (.store 1 (.ixSl 1 (.var 0) (.var 1)) (.ld none (.ixSl 1 (.var 0) (.var 3))) [])
 (.store 1 (.ixSl 1 (.var 0) (.var 3)) (.var 6) [])))))
 (.seq
 (.seq
 (.chk [(.bin .sub (.var 2) (.const (.int .i64 1)))])
 (.seq
 (.set 7 (.bin .add (.var 1) (.const (.int .i64 1))))
 (.set 8 (.bin .sub (.var 2) (.const (.int .i64 1))))))
 (.seq
 (.block 0
 (.loop [0, 1, 7, 8]
 (.seq
 (.seq
 (.seq
 .skip
 (.seq
 (.chk [(.pick (.bin .leq (.var 7) (.var 8)) (.ld none (.ixSl 1 (.var 0) (.var 1))) (.const (.bool false))), (.pick (.bin .leq (.var 7) (.var 8)) (.ld none (.ixSl 1 (.var 0) (.var 7))) (.const (.bool false)))])
 (.cond (.pick (.bin .leq (.var 7) (.var 8)) (.const (.bool true)) (.const (.bool false)))
 (.call (some 9) 163 [(.ld none (.ixSl 1 (.var 0) (.var 7))), (.ld none (.ixSl 1 (.var 0) (.var 1)))] [])
 (.clr [9]))))
 (.cond (.pick (.bin .leq (.var 7) (.var 8)) (.var 9) (.const (.bool false)))
 .skip
 (.exit 0)))
 (.block 1
 (.set 7 (.bin .add (.var 7) (.const (.int .i64 1))))))))
 (.seq
 (.block 2
 (.loop [0, 1, 7, 8]
 (.seq
 (.seq
 (.seq
 .skip
 (.seq
 (.chk [(.pick (.bin .leq (.var 7) (.var 8)) (.ld none (.ixSl 1 (.var 0) (.var 1))) (.const (.bool false))), (.pick (.bin .leq (.var 7) (.var 8)) (.ld none (.ixSl 1 (.var 0) (.var 8))) (.const (.bool false)))])
 (.cond (.pick (.bin .leq (.var 7) (.var 8)) (.const (.bool true)) (.const (.bool false)))
 (.call (some 10) 163 [(.ld none (.ixSl 1 (.var 0) (.var 8))), (.ld none (.ixSl 1 (.var 0) (.var 1)))] [])
 (.clr [10]))))
 (.cond (.pick (.bin .leq (.var 7) (.var 8)) (.un .not (.var 10)) (.const (.bool false)))
 .skip
 (.exit 2)))
 (.block 3
 (.set 8 (.bin .sub (.var 8) (.const (.int .i64 1))))))))
 (.seq
 (.cond (.bin .gtr (.var 7) (.var 8))
 (.seq
 (.seq
 .skip
 (.seq
 (.chk [(.ld none (.ixSl 1 (.var 0) (.var 1)))])
 (.seq
 (.set 11 (.ld none (.ixSl 1 (.var 0) (.var 8))))
 (.seq
 (.store 1 (.ixSl 1 (.var 0) (.var 8)) (.ld none (.ixSl 1 (.var 0) (.var 1))) [])
 (.store 1 (.ixSl 1 (.var 0) (.var 1)) (.var 11) [])))))
 (.seq
 (.seq
 (.set 4 (.var 8))
 (.set 5 (.const (.bool true))))
 .ret))
 .skip)
 (.seq
 (.seq
 .skip
 (.seq
 (.chk [(.ld none (.ixSl 1 (.var 0) (.var 8)))])
 (.seq
 (.set 12 (.ld none (.ixSl 1 (.var 0) (.var 7))))
 (.seq
 (.store 1 (.ixSl 1 (.var 0) (.var 7)) (.ld none (.ixSl 1 (.var 0) (.var 8))) [])
 (.store 1 (.ixSl 1 (.var 0) (.var 8)) (.var 12) [])))))
 (.seq
 (.set 7 (.bin .add (.var 7) (.const (.int .i64 1))))
 (.seq
 (.set 8 (.bin .sub (.var 8) (.const (.int .i64 1))))
 (.seq
 (.block 4
 (.loop [0, 1, 7, 8]
 (.block 5
 (.seq
 (.block 6
 (.loop [0, 1, 7, 8]
 (.seq
 (.seq
 (.seq
 .skip
 (.seq
 (.chk [(.pick (.bin .leq (.var 7) (.var 8)) (.ld none (.ixSl 1 (.var 0) (.var 1))) (.const (.bool false))), (.pick (.bin .leq (.var 7) (.var 8)) (.ld none (.ixSl 1 (.var 0) (.var 7))) (.const (.bool false)))])
 (.cond (.pick (.bin .leq (.var 7) (.var 8)) (.const (.bool true)) (.const (.bool false)))
 (.call (some 13) 163 [(.ld none (.ixSl 1 (.var 0) (.var 7))), (.ld none (.ixSl 1 (.var 0) (.var 1)))] [])
 (.clr [13]))))
 (.cond (.pick (.bin .leq (.var 7) (.var 8)) (.var 13) (.const (.bool false)))
 .skip
 (.exit 6)))
 (.block 7
 (.set 7 (.bin .add (.var 7) (.const (.int .i64 1))))))))
 (.seq
 (.block 8
 (.loop [0, 1, 7, 8]
 (.seq
 (.seq
 (.seq
 .skip
 (.seq
 (.chk [(.pick (.bin .leq (.var 7) (.var 8)) (.ld none (.ixSl 1 (.var 0) (.var 1))) (.const (.bool false))), (.pick (.bin .leq (.var 7) (.var 8)) (.ld none (.ixSl 1 (.var 0) (.var 8))) (.const (.bool false)))])
 (.cond (.pick (.bin .leq (.var 7) (.var 8)) (.const (.bool true)) (.const (.bool false)))
 (.call (some 14) 163 [(.ld none (.ixSl 1 (.var 0) (.var 8))), (.ld none (.ixSl 1 (.var 0) (.var 1)))] [])
 (.clr [14]))))
 (.cond (.pick (.bin .leq (.var 7) (.var 8)) (.un .not (.var 14)) (.const (.bool false)))
 .skip
 (.exit 8)))
 (.block 9
 (.set 8 (.bin .sub (.var 8) (.const (.int .i64 1))))))))
 (.seq
 (.cond (.bin .gtr (.var 7) (.var 8))
 (.exit 4)
 .skip)
 (.seq
 (.seq
 .skip
 (.seq
 (.chk [(.ld none (.ixSl 1 (.var 0) (.var 8)))])
 (.seq
 (.set 15 (.ld none (.ixSl 1 (.var 0) (.var 7))))
 (.seq
 (.store 1 (.ixSl 1 (.var 0) (.var 7)) (.ld none (.ixSl 1 (.var 0) (.var 8))) [])
 (.store 1 (.ixSl 1 (.var 0) (.var 8)) (.var 15) [])))))
 (.seq
 (.set 7 (.bin .add (.var 7) (.const (.int .i64 1))))
 (.set 8 (.bin .sub (.var 8) (.const (.int .i64 1))))))))))))
 (.seq
 (.seq
 .skip
 (.seq
 (.chk [(.ld none (.ixSl 1 (.var 0) (.var 1)))])
 (.seq
 (.set 16 (.ld none (.ixSl 1 (.var 0) (.var 8))))
 (.seq
 (.store 1 (.ixSl 1 (.var 0) (.var 8)) (.ld none (.ixSl 1 (.var 0) (.var 1))) [])
 (.store 1 (.ixSl 1 (.var 0) (.var 1)) (.var 16) [])))))
 (.seq
 (.seq
 (.set 4 (.var 8))
 (.set 5 (.const (.bool false))))
 .ret)))))))))))),
  [(.var 4), (.var 5)]⟩
theorem okx_165 : FnOk Tryz.prog 0 125 165 xf165 := fnOk_of Tryz.func165 (np := 4) (V := [0, 1, 2, 3, 8, 9, 23, 10, 11, 42, 58, 77, 92, 111, 127, 146, 164]) (ks := [[0, 1, 7, 8], [0, 1, 7, 8], [0, 1, 7, 8], [0, 1, 7, 8], [0, 1, 7, 8]]) (by kernel_rfl)

/- math/bits.Len32 -/
def xf166 : XF := ⟨1, [0, 2],
  (.seq
 (.set 1 (.const (.int .i64 0)))
 (.seq
 (.cond (.bin .geq (.var 0) (.const (.int .u32 65536)))
 (.seq
 (.set 0 (.bin .shr (.var 0) (.const (.int .u64 16))))
 (.set 1 (.const (.int .i64 16))))
 .skip)
 (.seq
 (.cond (.bin .geq (.var 0) (.const (.int .u32 256)))
 (.seq
 (.set 0 (.bin .shr (.var 0) (.const (.int .u64 8))))
 (.set 1 (.bin .add (.var 1) (.const (.int .i64 8)))))
 .skip)
 (.seq
 (.seq
 (.chk [(.bin .add (.var 1) (.conv .i64 (.idxStr (.const (.string ⟨#[0, 1, 2, 2, 3, 3, 3, 3, 4, 4, 4, 4, 4, 4, 4, 4, 5, 5, 5, 5, 5, 5, 5, 5, 5, 5, 5, 5, 5, 5, 5, 5, 6, 6, 6, 6, 6, 6, 6, 6, 6, 6, 6, 6, 6, 6, 6, 6, 6, 6, 6, 6, 6, 6, 6, 6, 6, 6, 6, 6, 6, 6, 6, 6, 7, 7, 7, 7, 7, 7, 7, 7, 7, 7, 7, 7, 7, 7, 7, 7, 7, 7, 7, 7, 7, 7, 7, 7, 7, 7, 7, 7, 7, 7, 7, 7, 7, 7, 7, 7, 7, 7, 7, 7, 7, 7, 7, 7, 7, 7, 7, 7, 7, 7, 7, 7, 7, 7, 7, 7, 7, 7, 7, 7, 7, 7, 7, 7, 8, 8, 8, 8, 8, 8, 8, 8, 8, 8, 8, 8, 8, 8, 8, 8, 8, 8, 8, 8, 8, 8, 8, 8, 8, 8, 8, 8, 8, 8, 8, 8, 8, 8, 8, 8, 8, 8, 8, 8, 8, 8, 8, 8, 8, 8, 8, 8, 8, 8, 8, 8, 8, 8, 8, 8, 8, 8, 8, 8, 8, 8, 8, 8, 8, 8, 8, 8, 8, 8, 8, 8, 8, 8, 8, 8, 8, 8, 8, 8, 8, 8, 8, 8, 8, 8, 8, 8, 8, 8, 8, 8, 8, 8, 8, 8, 8, 8, 8, 8, 8, 8, 8, 8, 8, 8, 8, 8, 8, 8, 8, 8, 8, 8, 8, 8, 8, 8, 8, 8, 8, 8, 8, 8, 8, 8, 8, 8]⟩)) (.conv .u8 (.var 0))))), (.conv .i64 (.idxStr (.const (.string ⟨#[0, 1, 2, 2, 3, 3, 3, 3, 4, 4, 4, 4, 4, 4, 4, 4, 5, 5, 5, 5, 5, 5, 5, 5, 5, 5, 5, 5, 5, 5, 5, 5, 6, 6, 6, 6, 6, 6, 6, 6, 6, 6, 6, 6, 6, 6, 6, 6, 6, 6, 6, 6, 6, 6, 6, 6, 6, 6, 6, 6, 6, 6, 6, 6, 7, 7, 7, 7, 7, 7, 7, 7, 7, 7, 7, 7, 7, 7, 7, 7, 7, 7, 7, 7, 7, 7, 7, 7, 7, 7, 7, 7, 7, 7, 7, 7, 7, 7, 7, 7, 7, 7, 7, 7, 7, 7, 7, 7, 7, 7, 7, 7, 7, 7, 7, 7, 7, 7, 7, 7, 7, 7, 7, 7, 7, 7, 7, 7, 8, 8, 8, 8, 8, 8, 8, 8, 8, 8, 8, 8, 8, 8, 8, 8, 8, 8, 8, 8, 8, 8, 8, 8, 8, 8, 8, 8, 8, 8, 8, 8, 8, 8, 8, 8, 8, 8, 8, 8, 8, 8, 8, 8, 8, 8, 8, 8, 8, 8, 8, 8, 8, 8, 8, 8, 8, 8, 8, 8, 8, 8, 8, 8, 8, 8, 8, 8, 8, 8, 8, 8, 8, 8, 8, 8, 8, 8, 8, 8, 8, 8, 8, 8, 8, 8, 8, 8, 8, 8, 8, 8, 8, 8, 8, 8, 8, 8, 8, 8, 8, 8, 8, 8, 8, 8, 8, 8, 8, 8, 8, 8, 8, 8, 8, 8, 8, 8, 8, 8, 8, 8, 8, 8, 8, 8, 8, 8]⟩)) (.conv .u8 (.var 0)))), (.idxStr (.const (.string ⟨#[0, 1, 2, 2, 3, 3, 3, 3, 4, 4, 4, 4, 4, 4, 4, 4, 5, 5, 5, 5, 5, 5, 5, 5, 5, 5, 5, 5, 5, 5, 5, 5, 6, 6, 6, 6, 6, 6, 6, 6, 6, 6, 6, 6, 6, 6, 6, 6, 6, 6, 6, 6, 6, 6, 6, 6, 6, 6, 6, 6, 6, 6, 6, 6, 7, 7, 7, 7, 7, 7, 7, 7, 7, 7, 7, 7, 7, 7, 7, 7, 7, 7, 7, 7, 7, 7, 7, 7, 7, 7, 7, 7, 7, 7, 7, 7, 7, 7, 7, 7, 7, 7, 7, 7, 7, 7, 7, 7, 7, 7, 7, 7, 7, 7, 7, 7, 7, 7, 7, 7, 7, 7, 7, 7, 7, 7, 7, 7, 8, 8, 8, 8, 8, 8, 8, 8, 8, 8, 8, 8, 8, 8, 8, 8, 8, 8, 8, 8, 8, 8, 8, 8, 8, 8, 8, 8, 8, 8, 8, 8, 8, 8, 8, 8, 8, 8, 8, 8, 8, 8, 8, 8, 8, 8, 8, 8, 8, 8, 8, 8, 8, 8, 8, 8, 8, 8, 8, 8, 8, 8, 8, 8, 8, 8, 8, 8, 8, 8, 8, 8, 8, 8, 8, 8, 8, 8, 8, 8, 8, 8, 8, 8, 8, 8, 8, 8, 8, 8, 8, 8, 8, 8, 8, 8, 8, 8, 8, 8, 8, 8, 8, 8, 8, 8, 8, 8, 8, 8, 8, 8, 8, 8, 8, 8, 8, 8, 8, 8, 8, 8, 8, 8, 8, 8, 8, 8]⟩)) (.conv .u8 (.var 0)))])
 (.set 1 (.bin .add (.var 1) (.conv .i64 (.idxStr (.const (.string ⟨#[0, 1, 2, 2, 3, 3, 3, 3, 4, 4, 4, 4, 4, 4, 4, 4, 5, 5, 5, 5, 5, 5, 5, 5, 5, 5, 5, 5, 5, 5, 5, 5, 6, 6, 6, 6, 6, 6, 6, 6, 6, 6, 6, 6, 6, 6, 6, 6, 6, 6, 6, 6, 6, 6, 6, 6, 6, 6, 6, 6, 6, 6, 6, 6, 7, 7, 7, 7, 7, 7, 7, 7, 7, 7, 7, 7, 7, 7, 7, 7, 7, 7, 7, 7, 7, 7, 7, 7, 7, 7, 7, 7, 7, 7, 7, 7, 7, 7, 7, 7, 7, 7, 7, 7, 7, 7, 7, 7, 7, 7, 7, 7, 7, 7, 7, 7, 7, 7, 7, 7, 7, 7, 7, 7, 7, 7, 7, 7, 8, 8, 8, 8, 8, 8, 8, 8, 8, 8, 8, 8, 8, 8, 8, 8, 8, 8, 8, 8, 8, 8, 8, 8, 8, 8, 8, 8, 8, 8, 8, 8, 8, 8, 8, 8, 8, 8, 8, 8, 8, 8, 8, 8, 8, 8, 8, 8, 8, 8, 8, 8, 8, 8, 8, 8, 8, 8, 8, 8, 8, 8, 8, 8, 8, 8, 8, 8, 8, 8, 8, 8, 8, 8, 8, 8, 8, 8, 8, 8, 8, 8, 8, 8, 8, 8, 8, 8, 8, 8, 8, 8, 8, 8, 8, 8, 8, 8, 8, 8, 8, 8, 8, 8, 8, 8, 8, 8, 8, 8, 8, 8, 8, 8, 8, 8, 8, 8, 8, 8, 8, 8, 8, 8, 8, 8, 8, 8]⟩)) (.conv .u8 (.var 0)))))))
 .ret)))),
  [(.var 1)]⟩
theorem okx_166 : FnOk Tryz.prog 0 125 166 xf166 := fnOk_of Tryz.func166 (np := 1) (V := [0, 2]) (ks := []) (by kernel_rfl)

/- math/bits.Len64 -/
def xf167 : XF := ⟨1, [0, 2],
  (.seq
 (.set 1 (.const (.int .i64 0)))
 (.seq
 (.cond (.bin .geq (.var 0) (.const (.int .u64 4294967296)))
 (.seq
 (.set 0 (.bin .shr (.var 0) (.const (.int .u64 32))))
 (.set 1 (.const (.int .i64 32))))
 .skip)
 (.seq
 (.cond (.bin .geq (.var 0) (.const (.int .u64 65536)))
 (.seq
 (.set 0 (.bin .shr (.var 0) (.const (.int .u64 16))))
 (.set 1 (.bin .add (.var 1) (.const (.int .i64 16)))))
 .skip)
 (.seq
 (.cond (.bin .geq (.var 0) (.const (.int .u64 256)))
 (.seq
 (.set 0 (.bin .shr (.var 0) (.const (.int .u64 8))))
 (.set 1 (.bin .add (.var 1) (.const (.int .i64 8)))))
 .skip)
 (.seq
 (.seq
 (.chk [(.bin .add (.var 1) (.conv .i64 (.idxStr (.const (.string ⟨#[0, 1, 2, 2, 3, 3, 3, 3, 4, 4, 4, 4, 4, 4, 4, 4, 5, 5, 5, 5, 5, 5, 5, 5, 5, 5, 5, 5, 5, 5, 5, 5, 6, 6, 6, 6, 6, 6, 6, 6, 6, 6, 6, 6, 6, 6, 6, 6, 6, 6, 6, 6, 6, 6, 6, 6, 6, 6, 6, 6, 6, 6, 6, 6, 7, 7, 7, 7, 7, 7, 7, 7, 7, 7, 7, 7, 7, 7, 7, 7, 7, 7, 7, 7, 7, 7, 7, 7, 7, 7, 7, 7, 7, 7, 7, 7, 7, 7, 7, 7, 7, 7, 7, 7, 7, 7, 7, 7, 7, 7, 7, 7, 7, 7, 7, 7, 7, 7, 7, 7, 7, 7, 7, 7, 7, 7, 7, 7, 8, 8, 8, 8, 8, 8, 8, 8, 8, 8, 8, 8, 8, 8, 8, 8, 8, 8, 8, 8, 8, 8, 8, 8, 8, 8, 8, 8, 8, 8, 8, 8, 8, 8, 8, 8, 8, 8, 8, 8, 8, 8, 8, 8, 8, 8, 8, 8, 8, 8, 8, 8, 8, 8, 8, 8, 8, 8, 8, 8, 8, 8, 8, 8, 8, 8, 8, 8, 8, 8, 8, 8, 8, 8, 8, 8, 8, 8, 8, 8, 8, 8, 8, 8, 8, 8, 8, 8, 8, 8, 8, 8, 8, 8, 8, 8, 8, 8, 8, 8, 8, 8, 8, 8, 8, 8, 8, 8, 8, 8, 8, 8, 8, 8, 8, 8, 8, 8, 8, 8, 8, 8, 8, 8, 8, 8, 8, 8]⟩)) (.conv .u8 (.var 0))))), (.conv .i64 (.idxStr (.const (.string ⟨#[0, 1, 2, 2, 3, 3, 3, 3, 4, 4, 4, 4, 4, 4, 4, 4, 5, 5, 5, 5, 5, 5, 5, 5, 5, 5, 5, 5, 5, 5, 5, 5, 6, 6, 6, 6, 6, 6, 6, 6, 6, 6, 6, 6, 6, 6, 6, 6, 6, 6, 6, 6, 6, 6, 6, 6, 6, 6, 6, 6, 6, 6, 6, 6, 7, 7, 7, 7, 7, 7, 7, 7, 7, 7, 7, 7, 7, 7, 7, 7, 7, 7, 7, 7, 7, 7, 7, 7, 7, 7, 7, 7, 7, 7, 7, 7, 7, 7, 7, 7, 7, 7, 7, 7, 7, 7, 7, 7, 7, 7, 7, 7, 7, 7, 7, 7, 7, 7, 7, 7, 7, 7, 7, 7, 7, 7, 7, 7, 8, 8, 8, 8, 8, 8, 8, 8, 8, 8, 8, 8, 8, 8, 8, 8, 8, 8, 8, 8, 8, 8, 8, 8, 8, 8, 8, 8, 8, 8, 8, 8, 8, 8, 8, 8, 8, 8, 8, 8, 8, 8, 8, 8, 8, 8, 8, 8, 8, 8, 8, 8, 8, 8, 8, 8, 8, 8, 8, 8, 8, 8, 8, 8, 8, 8, 8, 8, 8, 8, 8, 8, 8, 8, 8, 8, 8, 8, 8, 8, 8, 8, 8, 8, 8, 8, 8, 8, 8, 8, 8, 8, 8, 8, 8, 8, 8, 8, 8, 8, 8, 8, 8, 8, 8, 8, 8, 8, 8, 8, 8, 8, 8, 8, 8, 8, 8, 8, 8, 8, 8, 8, 8, 8, 8, 8, 8, 8]⟩)) (.conv .u8 (.var 0)))), (.idxStr (.const (.string ⟨#[0, 1, 2, 2, 3, 3, 3, 3, 4, 4, 4, 4, 4, 4, 4, 4, 5, 5, 5, 5, 5, 5, 5, 5, 5, 5, 5, 5, 5, 5, 5, 5, 6, 6, 6, 6, 6, 6, 6, 6, 6, 6, 6, 6, 6, 6, 6, 6, 6, 6, 6, 6, 6, 6, 6, 6, 6, 6, 6, 6, 6, 6, 6, 6, 7, 7, 7, 7, 7, 7, 7, 7, 7, 7, 7, 7, 7, 7, 7, 7, 7, 7, 7, 7, 7, 7, 7, 7, 7, 7, 7, 7, 7, 7, 7, 7, 7, 7, 7, 7, 7, 7, 7, 7, 7, 7, 7, 7, 7, 7, 7, 7, 7, 7, 7, 7, 7, 7, 7, 7, 7, 7, 7, 7, 7, 7, 7, 7, 8, 8, 8, 8, 8, 8, 8, 8, 8, 8, 8, 8, 8, 8, 8, 8, 8, 8, 8, 8, 8, 8, 8, 8, 8, 8, 8, 8, 8, 8, 8, 8, 8, 8, 8, 8, 8, 8, 8, 8, 8, 8, 8, 8, 8, 8, 8, 8, 8, 8, 8, 8, 8, 8, 8, 8, 8, 8, 8, 8, 8, 8, 8, 8, 8, 8, 8, 8, 8, 8, 8, 8, 8, 8, 8, 8, 8, 8, 8, 8, 8, 8, 8, 8, 8, 8, 8, 8, 8, 8, 8, 8, 8, 8, 8, 8, 8, 8, 8, 8, 8, 8, 8, 8, 8, 8, 8, 8, 8, 8, 8, 8, 8, 8, 8, 8, 8, 8, 8, 8, 8, 8, 8, 8, 8, 8, 8, 8]⟩)) (.conv .u8 (.var 0)))])
 (.set 1 (.bin .add (.var 1) (.conv .i64 (.idxStr (.const (.string ⟨#[0, 1, 2, 2, 3, 3, 3, 3, 4, 4, 4, 4, 4, 4, 4, 4, 5, 5, 5, 5, 5, 5, 5, 5, 5, 5, 5, 5, 5, 5, 5, 5, 6, 6, 6, 6, 6, 6, 6, 6, 6, 6, 6, 6, 6, 6, 6, 6, 6, 6, 6, 6, 6, 6, 6, 6, 6, 6, 6, 6, 6, 6, 6, 6, 7, 7, 7, 7, 7, 7, 7, 7, 7, 7, 7, 7, 7, 7, 7, 7, 7, 7, 7, 7, 7, 7, 7, 7, 7, 7, 7, 7, 7, 7, 7, 7, 7, 7, 7, 7, 7, 7, 7, 7, 7, 7, 7, 7, 7, 7, 7, 7, 7, 7, 7, 7, 7, 7, 7, 7, 7, 7, 7, 7, 7, 7, 7, 7, 8, 8, 8, 8, 8, 8, 8, 8, 8, 8, 8, 8, 8, 8, 8, 8, 8, 8, 8, 8, 8, 8, 8, 8, 8, 8, 8, 8, 8, 8, 8, 8, 8, 8, 8, 8, 8, 8, 8, 8, 8, 8, 8, 8, 8, 8, 8, 8, 8, 8, 8, 8, 8, 8, 8, 8, 8, 8, 8, 8, 8, 8, 8, 8, 8, 8, 8, 8, 8, 8, 8, 8, 8, 8, 8, 8, 8, 8, 8, 8, 8, 8, 8, 8, 8, 8, 8, 8, 8, 8, 8, 8, 8, 8, 8, 8, 8, 8, 8, 8, 8, 8, 8, 8, 8, 8, 8, 8, 8, 8, 8, 8, 8, 8, 8, 8, 8, 8, 8, 8, 8, 8, 8, 8, 8, 8, 8, 8]⟩)) (.conv .u8 (.var 0)))))))
 .ret))))),
  [(.var 1)]⟩
theorem okx_167 : FnOk Tryz.prog 0 125 167 xf167 := fnOk_of Tryz.func167 (np := 1) (V := [0, 2]) (ks := []) (by kernel_rfl)

/- tipstaff/tnum.by -/
def xf168 : XF := ⟨1, [0, 2],
  (.seq
 (.set 1 (.const (.int .i64 0)))
 (.seq
 (.set 1 (.conv .i64 (.bin .rem (.conv .u64 (.var 0)) (.const (.int .u64 64)))))
 .ret)),
  [(.var 1)]⟩
theorem okx_168 : FnOk Tryz.prog 0 125 168 xf168 := fnOk_of Tryz.func168 (np := 1) (V := [0, 2]) (ks := []) (by kernel_rfl)

/- tipstaff/branch.one -/
def xf169 : XF := ⟨1, [0, 2, 1],
  (.seq
 (.seq
 (.new (some 2) 73 (.var 0))
 (.set 1 (.const (.bool false))))
 (.seq
 (.set 1 (.bin .eql (.ld none (.offp 2 (.var 2))) (.ld none (.offp 3 (.var 2)))))
 .ret)),
  [(.var 1)]⟩
theorem okx_169 : FnOk Tryz.prog 0 125 169 xf169 := fnOk_of Tryz.func169 (np := 1) (V := [0, 2, 1]) (ks := []) (by kernel_rfl)

/- tipstaff/branch.without -/
def xf170 : XF := ⟨2, [0, 1, 4, 5, 2],
  (.seq
 (.seq
 (.new (some 4) 73 (.var 0))
 (.seq
 (.new (some 2) 73 (.const zA2))
 (.set 3 (.const (.bool false)))))
 (.seq
 (.cond (.bin .eql (.ld none (.offp 2 (.var 4))) (.var 1))
 (.seq
 (.cond (.bin .eql (.var 1) (.const (.int .u64 18446744073709551615)))
 (.seq
 (.seq
 (.store 6 (.var 2) (.const zA2) [])
 (.set 3 (.const (.bool false))))
 .ret)
 .skip)
 (.store 1 (.offp 2 (.var 4)) (.bin .add (.var 1) (.const (.int .u64 1))) []))
 .skip)
 (.seq
 (.cond (.bin .eql (.ld none (.offp 3 (.var 4))) (.var 1))
 (.seq
 (.cond (.bin .eql (.var 1) (.const (.int .u64 0)))
 (.seq
 (.seq
 (.store 6 (.var 2) (.const zA2) [])
 (.set 3 (.const (.bool false))))
 .ret)
 .skip)
 (.store 1 (.offp 3 (.var 4)) (.bin .sub (.var 1) (.const (.int .u64 1))) []))
 .skip)
 (.seq
 (.cond (.bin .gtr (.ld none (.offp 2 (.var 4))) (.ld none (.offp 3 (.var 4))))
 (.seq
 (.seq
 (.store 6 (.var 2) (.const zA2) [])
 (.set 3 (.const (.bool false))))
 .ret)
 .skip)
 (.seq
 (.seq
 (.store 6 (.var 2) (.ld (some 6) (.var 4)) [])
 (.set 3 (.const (.bool true))))
 .ret))))),
  [(.ld (some 6) (.var 2)), (.var 3)]⟩
theorem okx_170 : FnOk Tryz.prog 0 125 170 xf170 := fnOk_of Tryz.func170 (np := 2) (V := [0, 1, 4, 5, 2]) (ks := []) (by kernel_rfl)

/- (tipstaff/branch.pair).swapped -/
def xf171 : XF := ⟨1, [0, 2, 1],
  (.seq
 (.seq
 (.new (some 2) 175 (.var 0))
 (.new (some 1) 175 (.const zA5)))
 (.seq
 (.seq
 (.chk [(.upd 6 6 (.upd 0 6 (.const zA5) (.ld (some 6) (.offp 6 (.var 2)))) (.ld (some 6) (.offp 0 (.var 2))))])
 (.store 12 (.var 1) (.upd 6 6 (.upd 0 6 (.const zA5) (.ld (some 6) (.offp 6 (.var 2)))) (.ld (some 6) (.offp 0 (.var 2)))) []))
 .ret)),
  [(.ld (some 12) (.var 1))]⟩
theorem okx_171 : FnOk Tryz.prog 0 125 171 xf171 := fnOk_of Tryz.func171 (np := 1) (V := [0, 2, 1]) (ks := []) (by kernel_rfl)

/- slices.siftDownOrdered[int] -/
def xf172 : XF := ⟨4, [0, 1, 2, 3, 8, 9, 35, 51, 72],
  (.seq
 (.set 4 (.var 1))
 (.block 0
 (.loop [0, 2, 3, 4]
 (.block 1
 (.seq
 (.set 5 (.bin .add (.bin .mul (.const (.int .i64 2)) (.var 4)) (.const (.int .i64 1))))
 (.seq
 (.cond (.bin .geq (.var 5) (.var 2))
 (.exit 0)
 .skip)
 (.seq
 (.seq
 (.seq
 .skip
 (.seq
 (.chk [(.pick (.bin .lss (.bin .add (.var 5) (.const (.int .i64 1))) (.var 2)) (.ld none (.ixSl 1 (.var 0) (.bin .add (.bin .add (.var 3) (.var 5)) (.const (.int .i64 1))))) (.const (.bool false))), (.pick (.bin .lss (.bin .add (.var 5) (.const (.int .i64 1))) (.var 2)) (.ld none (.ixSl 1 (.var 0) (.bin .add (.var 3) (.var 5)))) (.const (.bool false)))])
 (.cond (.pick (.bin .lss (.bin .add (.var 5) (.const (.int .i64 1))) (.var 2)) (.const (.bool true)) (.const (.bool false)))
 (.call (some 6) 163 [(.ld none (.ixSl 1 (.var 0) (.bin .add (.var 3) (.var 5)))), (.ld none (.ixSl 1 (.var 0) (.bin .add (.bin .add (.var 3) (.var 5)) (.const (.int .i64 1)))))] [])
 (.clr [6]))))
 (.cond (.pick (.bin .lss (.bin .add (.var 5) (.const (.int .i64 1))) (.var 2)) (.var 6) (.const (.bool false)))
 (.set 5 (.bin .add (.var 5) (.const (.int .i64 1))))
 .skip))
 (.seq
 (.seq
 (.seq
 .skip
 (.call (some 7) 163 [(.ld none (.ixSl 1 (.var 0) (.bin .add (.var 3) (.var 4)))), (.ld none (.ixSl 1 (.var 0) (.bin .add (.var 3) (.var 5))))] []))
 (.cond (.un .not (.var 7))
 .ret
 .skip))
 (.seq
 (.seq
 .skip
 (.seq
 (.chk [(.ld none (.ixSl 1 (.var 0) (.bin .add (.var 3) (.var 5))))])
 (.seq
 (.set 8 (.ld none (.ixSl 1 (.var 0) (.bin .add (.var 3) (.var 4)))))
 (.seq
 (.store 1 (.ixSl 1 (.var 0) (.bin .add (.var 3) (.var 4))) (.ld none (.ixSl 1 (.var 0) (.bin .add (.var 3) (.var 5)))) [])
 (.store 1 (.ixSl 1 (.var 0) (.bin .add (.var 3) (.var 5))) (.var 8) [])))))
 (.set 4 (.var 5))))))))))),
  []⟩
theorem okx_172 : FnOk Tryz.prog 0 125 172 xf172 := fnOk_of Tryz.func172 (np := 4) (V := [0, 1, 2, 3, 8, 9, 35, 51, 72]) (ks := [[0, 2, 3, 4]]) (by kernel_rfl)

/- slices.nextPowerOfTwo -/
def xf173 : XF := ⟨1, [0, 2, 5],
  (.seq
 (.set 1 (.const (.int .u64 0)))
 (.seq
 (.seq
 (.call (some 2) 143 [(.conv .u64 (.var 0))] [])
 (.set 1 (.bin .shl (.const (.int .u64 1)) (.var 2))))
 .ret)),
  [(.var 1)]⟩
theorem okx_173 : FnOk Tryz.prog 0 125 173 xf173 := fnOk_of Tryz.func173 (np := 1) (V := [0, 2, 5]) (ks := []) (by kernel_rfl)

/- (*slices.xorshift).Next -/
def xf174 : XF := ⟨1, [0, 2],
  (.seq
 (.set 1 (.const (.int .u64 0)))
 (.seq
 (.seq
 .skip
 (.store 1 (.nn (.var 0)) (.bin .xor (.ld none (.nn (.var 0))) (.bin .shl (.ld none (.nn (.var 0))) (.const (.int .u64 13)))) []))
 (.seq
 (.seq
 .skip
 (.store 1 (.nn (.var 0)) (.bin .xor (.ld none (.nn (.var 0))) (.bin .shr (.ld none (.nn (.var 0))) (.const (.int .u64 7)))) []))
 (.seq
 (.seq
 .skip
 (.store 1 (.nn (.var 0)) (.bin .xor (.ld none (.nn (.var 0))) (.bin .shl (.ld none (.nn (.var 0))) (.const (.int .u64 17)))) []))
 (.seq
 (.set 1 (.ld none (.nn (.var 0))))
 .ret))))),
  [(.var 1)]⟩
theorem okx_174 : FnOk Tryz.prog 0 125 174 xf174 := fnOk_of Tryz.func174 (np := 1) (V := [0, 2]) (ks := []) (by kernel_rfl)

/- slices.medianAdjacentOrdered[int] -/
def xf175 : XF := ⟨3, [0, 1, 2, 6, 14],
  (.seq
 (.set 3 (.const (.int .i64 0)))
 (.seq
 (.seq
 (.call (some 4) 176 [(.var 0), (.bin .sub (.var 1) (.const (.int .i64 1))), (.var 1), (.bin .add (.var 1) (.const (.int .i64 1))), (.var 2)] [])
 (.set 3 (.var 4)))
 .ret)),
  [(.var 3)]⟩
theorem okx_175 : FnOk Tryz.prog 0 125 175 xf175 := fnOk_of Tryz.func175 (np := 3) (V := [0, 1, 2, 6, 14]) (ks := []) (by kernel_rfl)

/- slices.medianOrdered[int] -/
def xf176 : XF := ⟨5, [0, 1, 2, 3, 4, 10, 16, 24, 32],
  (.seq
 (.set 5 (.const (.int .i64 0)))
 (.seq
 (.seq
 (.call (some 6) 178 [(.var 0), (.var 1), (.var 2), (.var 4)] [])
 (.seq
 (.chk [(.proj 1 (.var 6))])
 (.seq
 (.set 1 (.proj 0 (.var 6)))
 (.set 2 (.proj 1 (.var 6))))))
 (.seq
 (.seq
 (.call (some 7) 178 [(.var 0), (.var 2), (.var 3), (.var 4)] [])
 (.seq
 (.chk [(.proj 1 (.var 7))])
 (.seq
 (.set 2 (.proj 0 (.var 7)))
 (.set 3 (.proj 1 (.var 7))))))
 (.seq
 (.seq
 (.call (some 8) 178 [(.var 0), (.var 1), (.var 2), (.var 4)] [])
 (.seq
 (.chk [(.proj 1 (.var 8))])
 (.seq
 (.set 1 (.proj 0 (.var 8)))
 (.set 2 (.proj 1 (.var 8))))))
 (.seq
 (.set 5 (.var 2))
 .ret))))),
  [(.var 5)]⟩
theorem okx_176 : FnOk Tryz.prog 0 125 176 xf176 := fnOk_of Tryz.func176 (np := 5) (V := [0, 1, 2, 3, 4, 10, 16, 24, 32]) (ks := []) (by kernel_rfl)

/- cmp.isNaN[int] -/
def xf177 : XF := ⟨1, [0, 2],
  (.seq
 (.set 1 (.const (.bool false)))
 (.seq
 (.set 1 (.bin .neq (.var 0) (.var 0)))
 .ret)),
  [(.var 1)]⟩
theorem okx_177 : FnOk Tryz.prog 0 125 177 xf177 := fnOk_of Tryz.func177 (np := 1) (V := [0, 2]) (ks := []) (by kernel_rfl)

/- slices.order2Ordered[int] -/
def xf178 : XF := ⟨4, [0, 1, 2, 3, 8, 9, 18],
  (.seq
 (.seq
 (.set 4 (.const (.int .i64 0)))
 (.set 5 (.const (.int .i64 0))))
 (.seq
 (.seq
 (.seq
 .skip
 (.call (some 6) 163 [(.ld none (.ixSl 1 (.var 0) (.var 2))), (.ld none (.ixSl 1 (.var 0) (.var 1)))] []))
 (.cond (.var 6)
 (.seq
 (.store 1 (.nn (.var 3)) (.bin .add (.ld none (.nn (.var 3))) (.const (.int .i64 1))) [])
 (.seq
 (.seq
 (.chk [(.var 1)])
 (.seq
 (.set 4 (.var 2))
 (.set 5 (.var 1))))
 .ret))
 .skip))
 (.seq
 (.seq
 (.chk [(.var 2)])
 (.seq
 (.set 4 (.var 1))
 (.set 5 (.var 2))))
 .ret))),
  [(.var 4), (.var 5)]⟩
theorem okx_178 : FnOk Tryz.prog 0 125 178 xf178 := fnOk_of Tryz.func178 (np := 4) (V := [0, 1, 2, 3, 8, 9, 18]) (ks := []) (by kernel_rfl)
end Go.Proofs.YtfdeipckfdogfaaGreat
