/- The interpreter's functions, part 3: made by program (geny.py). -/
import Derived.Test.YtkgpmjjleemdlaaGreatXnmz
import Derived.Test.YtkgpmjjleemdlaaGreatProg
set_option maxRecDepth 100000
set_option linter.unusedVariables false
namespace Go.Proofs.YtkgpmjjleemdlaaGreat
open Go.Eng
def cm52 : Cmd :=
  (.seq
 (.seq
 (.new (some 6) 76 (.var 1) [])
 (.seq
 (.new (some 7) 28 (.var 2) [])
 (.seq
 (.new (some 8) 82 (.var 3) [])
 (.seq
 (.set 4 (.const (.slice none 0 0)))
 (.set 5 (.const (.bool false)))))))
 (.seq
 (.seq
 .draw
 (.seq
 (.set 40 (.ld none (.offp 1 (.var 7))))
 (.seq
 (.set 12 (.ld (some 11) (.ixArr 11 11 (.offp 0 (.offp 1 (.var 6))) (.var 40))))
 (.seq
 (.set 13 (.ld (some 273) (.offp 1 (.var 6))))
 (.seq
 (.set 14 (.ld (some 5) (.var 7)))
 (.seq
 (.set 15 (.ld none (.offp 4 (.var 8))))
 (.alt
 (.seq
 (.call (some 9) 58 [(.var 13), (.var 14), (.var 15)] [(.ld none (.offp 4 (.var 8))), (.ld (some 5) (.var 7)), (.ld (some 273) (.offp 1 (.var 6))), (.ld (some 11) (.ixArr 11 11 (.offp 0 (.offp 1 (.var 6))) (.var 40))), (.ld none (.offp 1 (.var 7)))])
 (.alt
 (.seq
 (.new (some 10) 68 (.const zA4) [(.ld none (.offp 4 (.var 8))), (.ld (some 5) (.var 7)), (.ld (some 273) (.offp 1 (.var 6))), (.ld (some 11) (.ixArr 11 11 (.offp 0 (.offp 1 (.var 6))) (.var 40))), (.ld none (.offp 1 (.var 7)))])
 (.seq
 (.new (some 11) 68 (.const zA4) [(.ld none (.offp 4 (.var 8))), (.ld (some 5) (.var 7)), (.ld (some 273) (.offp 1 (.var 6))), (.ld (some 11) (.ixArr 11 11 (.offp 0 (.offp 1 (.var 6))) (.var 40))), (.ld none (.offp 1 (.var 7)))])
 (.seq
 (.store 11 (.var 10) (.var 12) [])
 (.store 11 (.var 11) (.var 9) []))))
 (.seq
 (.new (some 11) 68 (.const zA4) [(.ld none (.offp 4 (.var 8))), (.ld (some 5) (.var 7)), (.ld (some 273) (.offp 1 (.var 6))), (.ld (some 11) (.ixArr 11 11 (.offp 0 (.offp 1 (.var 6))) (.var 40))), (.ld none (.offp 1 (.var 7)))])
 (.seq
 (.new (some 10) 68 (.const zA4) [(.ld none (.offp 4 (.var 8))), (.ld (some 5) (.var 7)), (.ld (some 273) (.offp 1 (.var 6))), (.ld (some 11) (.ixArr 11 11 (.offp 0 (.offp 1 (.var 6))) (.var 40))), (.ld none (.offp 1 (.var 7)))])
 (.seq
 (.store 11 (.var 10) (.var 12) [])
 (.store 11 (.var 11) (.var 9) []))))))
 (.alt
 (.seq
 (.new (some 10) 68 (.const zA4) [(.ld none (.offp 4 (.var 8))), (.ld (some 5) (.var 7)), (.ld (some 273) (.offp 1 (.var 6))), (.ld (some 11) (.ixArr 11 11 (.offp 0 (.offp 1 (.var 6))) (.var 40))), (.ld none (.offp 1 (.var 7)))])
 (.alt
 (.seq
 (.call (some 9) 58 [(.var 13), (.var 14), (.var 15)] [(.ld none (.offp 4 (.var 8))), (.ld (some 5) (.var 7)), (.ld (some 273) (.offp 1 (.var 6))), (.ld (some 11) (.ixArr 11 11 (.offp 0 (.offp 1 (.var 6))) (.var 40))), (.ld none (.offp 1 (.var 7)))])
 (.seq
 (.new (some 11) 68 (.const zA4) [(.ld none (.offp 4 (.var 8))), (.ld (some 5) (.var 7)), (.ld (some 273) (.offp 1 (.var 6))), (.ld (some 11) (.ixArr 11 11 (.offp 0 (.offp 1 (.var 6))) (.var 40))), (.ld none (.offp 1 (.var 7)))])
 (.seq
 (.store 11 (.var 10) (.var 12) [])
 (.store 11 (.var 11) (.var 9) []))))
 (.seq
 (.new (some 11) 68 (.const zA4) [(.ld none (.offp 4 (.var 8))), (.ld (some 5) (.var 7)), (.ld (some 273) (.offp 1 (.var 6))), (.ld (some 11) (.ixArr 11 11 (.offp 0 (.offp 1 (.var 6))) (.var 40))), (.ld none (.offp 1 (.var 7)))])
 (.seq
 (.call (some 9) 58 [(.var 13), (.var 14), (.var 15)] [(.ld (some 11) (.ixArr 11 11 (.offp 0 (.offp 1 (.var 6))) (.var 40))), (.ld none (.offp 1 (.var 7)))])
 (.seq
 (.store 11 (.var 10) (.var 12) [])
 (.store 11 (.var 11) (.var 9) []))))))
 (.seq
 (.new (some 11) 68 (.const zA4) [(.ld none (.offp 4 (.var 8))), (.ld (some 5) (.var 7)), (.ld (some 273) (.offp 1 (.var 6))), (.ld (some 11) (.ixArr 11 11 (.offp 0 (.offp 1 (.var 6))) (.var 40))), (.ld none (.offp 1 (.var 7)))])
 (.alt
 (.seq
 (.call (some 9) 58 [(.var 13), (.var 14), (.var 15)] [(.ld none (.offp 4 (.var 8))), (.ld (some 5) (.var 7)), (.ld (some 273) (.offp 1 (.var 6))), (.ld (some 11) (.ixArr 11 11 (.offp 0 (.offp 1 (.var 6))) (.var 40))), (.ld none (.offp 1 (.var 7)))])
 (.seq
 (.new (some 10) 68 (.const zA4) [(.ld none (.offp 4 (.var 8))), (.ld (some 5) (.var 7)), (.ld (some 273) (.offp 1 (.var 6))), (.ld (some 11) (.ixArr 11 11 (.offp 0 (.offp 1 (.var 6))) (.var 40))), (.ld none (.offp 1 (.var 7)))])
 (.seq
 (.store 11 (.var 10) (.var 12) [])
 (.store 11 (.var 11) (.var 9) []))))
 (.seq
 (.new (some 10) 68 (.const zA4) [(.ld none (.offp 4 (.var 8))), (.ld (some 5) (.var 7)), (.ld (some 273) (.offp 1 (.var 6))), (.ld (some 11) (.ixArr 11 11 (.offp 0 (.offp 1 (.var 6))) (.var 40))), (.ld none (.offp 1 (.var 7)))])
 (.seq
 (.call (some 9) 58 [(.var 13), (.var 14), (.var 15)] [(.ld (some 11) (.ixArr 11 11 (.offp 0 (.offp 1 (.var 6))) (.var 40))), (.ld none (.offp 1 (.var 7)))])
 (.seq
 (.store 11 (.var 10) (.var 12) [])
 (.store 11 (.var 11) (.var 9) []))))))))))))))
 (.seq
 (.seq
 .draw
 (.seq
 (.chk [(.ld (some 5) (.var 7))])
 (.seq
 (.set 18 (.bin .add (.ld none (.offp 0 (.var 6))) (.const (.int .i64 1))))
 (.seq
 (.call (some 16) 54 [(.ld none (.offp 0 (.var 6))), (.ld (some 5) (.var 7))] [(.ld none (.offp 0 (.var 6)))])
 (.seq
 (.set 17 (.var 16))
 (.set 19 (.var 18)))))))
 (.seq
 (.cond (.pick (.bin .eql (.ld none (.offp 0 (.var 10))) (.const (.int .i64 1))) (.bin .eql (.ld none (.offp 0 (.var 11))) (.const (.int .i64 1))) (.const (.bool false)))
 (.seq
 (.seq
 .draw
 (.seq
 (.chk [(.var 17), (.ld (some 5) (.var 8)), (.ld (some 5) (.var 7))])
 (.seq
 (.set 21 (.ld (some 274) (.var 6)))
 (.seq
 (.set 22 (.ld (some 5) (.var 7)))
 (.seq
 (.set 23 (.ld (some 5) (.var 8)))
 (.seq
 (.chk [(.var 19)])
 (.seq
 (.call (some 20) 95 [(.ld (some 274) (.var 6)), (.ld (some 5) (.var 7)), (.ld (some 5) (.var 8)), (.const (.bool true)), (.var 17)] [(.ld (some 5) (.var 8)), (.ld (some 5) (.var 7)), (.ld (some 274) (.var 6))])
 (.seq
 (.call (some 24) 95 [(.var 21), (.var 22), (.var 23), (.const (.bool false)), (.var 19)] [])
 (.seq
 (.bi (some 25) .append [60, 60] 60 [(.var 20), (.var 24)] [])
 (.seq
 (.set 4 (.var 25))
 (.set 5 (.const (.bool true)))))))))))))
 .ret)
 .skip)
 (.seq
 (.cond (.pick (.pick (.pick (.pick (.pick (.bin .eql (.ld none (.offp 0 (.var 10))) (.const (.int .i64 0))) (.const (.bool true)) (.bin .eql (.ld none (.offp 0 (.var 10))) (.const (.int .i64 1)))) (.const (.bool true)) (.ld none (.offp 4 (.var 8)))) (.const (.bool true)) (.bin .neq (.ld none (.offp 4 (.var 7))) (.const (.int .i32 0)))) (.const (.bool true)) (.un .not (.ld none (.offp 3 (.var 8))))) (.const (.bool true)) (.pick (.bin .neq (.ld none (.offp 1 (.var 8))) (.const (.int .i64 1))) (.bin .neq (.ld none (.offp 1 (.var 8))) (.const (.int .i64 5))) (.const (.bool false))))
 (.seq
 (.seq
 (.set 4 (.const (.slice none 0 0)))
 (.set 5 (.const (.bool false))))
 .ret)
 .skip)
 (.seq
 (.cond (.bin .eql (.ld none (.offp 1 (.var 8))) (.const (.int .i64 1)))
 (.seq
 (.chk [(.var 19)])
 (.seq
 (.set 26 (.var 17))
 (.seq
 (.set 17 (.var 19))
 (.set 19 (.var 26)))))
 .skip)
 (.seq
 (.cond (.bin .neq (.ld none (.offp 0 (.var 10))) (.const (.int .i64 6)))
 (.seq
 (.seq
 (.call (some 27) 53 [(.ld (some 274) (.var 6)), (.var 17)] [])
 (.seq
 (.row (some 28) 76 1 (.upd 0 274 (.const zA8) (.var 27)) [])
 (.seq
 (.set 4 (.var 28))
 (.set 5 (.const (.bool true))))))
 .ret)
 .skip)
 (.seq
 (.seq
 .draw
 (.seq
 (.set 34 (.ld (some 274) (.var 6)))
 (.seq
 (.chk [(.var 17)])
 (.seq
 (.set 30 (.ld (some 274) (.var 6)))
 (.alt
 (.seq
 (.chk [(.var 19)])
 (.seq
 (.call (some 29) 53 [(.var 34), (.var 17)] [(.ld (some 274) (.var 6)), (.ld (some 274) (.var 6))])
 (.alt
 (.seq
 (.call (some 31) 53 [(.var 30), (.var 19)] [(.ld (some 274) (.var 6)), (.ld (some 274) (.var 6))])
 (.alt
 (.seq
 (.new (some 32) 76 (.const zA8) [(.ld (some 274) (.var 6)), (.ld (some 274) (.var 6))])
 (.seq
 (.new (some 33) 76 (.const zA8) [(.ld (some 274) (.var 6)), (.ld (some 274) (.var 6))])
 (.seq
 (.store 274 (.var 32) (.var 29) [])
 (.store 274 (.var 33) (.var 31) []))))
 (.seq
 (.new (some 33) 76 (.const zA8) [(.ld (some 274) (.var 6)), (.ld (some 274) (.var 6))])
 (.seq
 (.new (some 32) 76 (.const zA8) [(.ld (some 274) (.var 6)), (.ld (some 274) (.var 6))])
 (.seq
 (.store 274 (.var 32) (.var 29) [])
 (.store 274 (.var 33) (.var 31) []))))))
 (.alt
 (.seq
 (.new (some 32) 76 (.const zA8) [(.ld (some 274) (.var 6)), (.ld (some 274) (.var 6))])
 (.alt
 (.seq
 (.call (some 31) 53 [(.var 30), (.var 19)] [(.ld (some 274) (.var 6)), (.ld (some 274) (.var 6))])
 (.seq
 (.new (some 33) 76 (.const zA8) [(.ld (some 274) (.var 6)), (.ld (some 274) (.var 6))])
 (.seq
 (.store 274 (.var 32) (.var 29) [])
 (.store 274 (.var 33) (.var 31) []))))
 (.seq
 (.new (some 33) 76 (.const zA8) [(.ld (some 274) (.var 6)), (.ld (some 274) (.var 6))])
 (.seq
 (.call (some 31) 53 [(.var 30), (.var 19)] [])
 (.seq
 (.store 274 (.var 32) (.var 29) [])
 (.store 274 (.var 33) (.var 31) []))))))
 (.seq
 (.new (some 33) 76 (.const zA8) [(.ld (some 274) (.var 6)), (.ld (some 274) (.var 6))])
 (.alt
 (.seq
 (.call (some 31) 53 [(.var 30), (.var 19)] [(.ld (some 274) (.var 6)), (.ld (some 274) (.var 6))])
 (.seq
 (.new (some 32) 76 (.const zA8) [(.ld (some 274) (.var 6)), (.ld (some 274) (.var 6))])
 (.seq
 (.store 274 (.var 32) (.var 29) [])
 (.store 274 (.var 33) (.var 31) []))))
 (.seq
 (.new (some 32) 76 (.const zA8) [(.ld (some 274) (.var 6)), (.ld (some 274) (.var 6))])
 (.seq
 (.call (some 31) 53 [(.var 30), (.var 19)] [])
 (.seq
 (.store 274 (.var 32) (.var 29) [])
 (.store 274 (.var 33) (.var 31) []))))))))))
 (.alt
 (.seq
 (.chk [(.var 19)])
 (.seq
 (.new (some 32) 76 (.const zA8) [(.ld (some 274) (.var 6)), (.ld (some 274) (.var 6))])
 (.alt
 (.seq
 (.call (some 29) 53 [(.var 34), (.var 17)] [(.ld (some 274) (.var 6)), (.ld (some 274) (.var 6))])
 (.alt
 (.seq
 (.call (some 31) 53 [(.var 30), (.var 19)] [(.ld (some 274) (.var 6)), (.ld (some 274) (.var 6))])
 (.seq
 (.new (some 33) 76 (.const zA8) [(.ld (some 274) (.var 6)), (.ld (some 274) (.var 6))])
 (.seq
 (.store 274 (.var 32) (.var 29) [])
 (.store 274 (.var 33) (.var 31) []))))
 (.seq
 (.new (some 33) 76 (.const zA8) [(.ld (some 274) (.var 6)), (.ld (some 274) (.var 6))])
 (.seq
 (.call (some 31) 53 [(.var 30), (.var 19)] [])
 (.seq
 (.store 274 (.var 32) (.var 29) [])
 (.store 274 (.var 33) (.var 31) []))))))
 (.seq
 (.new (some 33) 76 (.const zA8) [(.ld (some 274) (.var 6)), (.ld (some 274) (.var 6))])
 (.seq
 (.call (some 29) 53 [(.var 34), (.var 17)] [(.ld (some 274) (.var 6))])
 (.seq
 (.call (some 31) 53 [(.var 30), (.var 19)] [])
 (.seq
 (.store 274 (.var 32) (.var 29) [])
 (.store 274 (.var 33) (.var 31) []))))))))
 (.seq
 (.chk [(.var 19)])
 (.seq
 (.new (some 33) 76 (.const zA8) [(.ld (some 274) (.var 6)), (.ld (some 274) (.var 6))])
 (.alt
 (.seq
 (.call (some 29) 53 [(.var 34), (.var 17)] [(.ld (some 274) (.var 6)), (.ld (some 274) (.var 6))])
 (.alt
 (.seq
 (.call (some 31) 53 [(.var 30), (.var 19)] [(.ld (some 274) (.var 6)), (.ld (some 274) (.var 6))])
 (.seq
 (.new (some 32) 76 (.const zA8) [(.ld (some 274) (.var 6)), (.ld (some 274) (.var 6))])
 (.seq
 (.store 274 (.var 32) (.var 29) [])
 (.store 274 (.var 33) (.var 31) []))))
 (.seq
 (.new (some 32) 76 (.const zA8) [(.ld (some 274) (.var 6)), (.ld (some 274) (.var 6))])
 (.seq
 (.call (some 31) 53 [(.var 30), (.var 19)] [])
 (.seq
 (.store 274 (.var 32) (.var 29) [])
 (.store 274 (.var 33) (.var 31) []))))))
 (.seq
 (.new (some 32) 76 (.const zA8) [(.ld (some 274) (.var 6)), (.ld (some 274) (.var 6))])
 (.seq
 (.call (some 29) 53 [(.var 34), (.var 17)] [(.ld (some 274) (.var 6))])
 (.seq
 (.call (some 31) 53 [(.var 30), (.var 19)] [])
 (.seq
 (.store 274 (.var 32) (.var 29) [])
 (.store 274 (.var 33) (.var 31) []))))))))))))))
 (.seq
 (.seq
 .draw
 (.seq
 (.chk [(.ld none (.offp 8 (.var 10)))])
 (.seq
 (.set 36 (.ld (some 273) (.offp 1 (.var 6))))
 (.seq
 (.set 37 (.ld none (.offp 8 (.var 10))))
 (.seq
 (.call (some 35) 96 [(.ld (some 273) (.offp 1 (.var 6))), (.ld none (.offp 8 (.var 10))), (.const (.bool true))] [(.ld none (.offp 8 (.var 10))), (.ld (some 273) (.offp 1 (.var 6)))])
 (.seq
 (.chk [(.offp 1 (.var 32))])
 (.seq
 (.call (some 38) 96 [(.var 36), (.var 37), (.const (.bool false))] [])
 (.seq
 (.store 273 (.offp 1 (.var 32)) (.var 35) [])
 (.store 273 (.offp 1 (.var 33)) (.var 38) [])))))))))
 (.seq
 (.seq
 (.row (some 39) 76 2 (.upd 274 274 (.upd 0 274 (.const zA9) (.ld (some 274) (.var 32))) (.ld (some 274) (.var 33))) [])
 (.seq
 (.set 4 (.var 39))
 (.set 5 (.const (.bool true)))))
 .ret))))))))))
def xf52 : XF := ⟨4, [0, 1, 2, 3, 8, 9, 5, 6, 7, 27, 10, 11, 21, 23, 24, 26, 31, 12, 34, 13, 47, 48, 49, 50, 52, 53, 90, 96, 97, 100, 101, 103, 14, 15, 98, 108, 110, 112, 113, 118, 17],
  (.seq
 (.seq
 (.new (some 6) 76 (.var 1))
 (.seq
 (.new (some 7) 28 (.var 2))
 (.seq
 (.new (some 8) 82 (.var 3))
 (.seq
 (.set 4 (.const (.slice none 0 0)))
 (.set 5 (.const (.bool false)))))))
 (.seq
 (.seq
 .skip
 (.seq
 (.set 40 (.ld none (.offp 1 (.var 7))))
 (.seq
 (.set 12 (.ld (some 11) (.ixArr 11 11 (.offp 0 (.offp 1 (.var 6))) (.var 40))))
 (.seq
 (.set 13 (.ld (some 273) (.offp 1 (.var 6))))
 (.seq
 (.set 14 (.ld (some 5) (.var 7)))
 (.seq
 (.set 15 (.ld none (.offp 4 (.var 8))))
 (.seq
 (.resv 2)
 (.seq
 (.seq
 (.set 10 (.const (.bool true)))
 (.seq
 (.set 11 (.const (.bool true)))
 .skip))
 (.seq
 (.chk [(.var 10), (.var 11)])
 (.seq
 (.clr [10, 11])
 (.seq
 (.chk [(.const zA4), (.const zA4)])
 (.seq
 (.call (some 9) 58 [(.var 13), (.var 14), (.var 15)] [(.ld none (.offp 4 (.var 8))), (.ld (some 5) (.var 7)), (.ld (some 273) (.offp 1 (.var 6))), (.ld (some 11) (.ixArr 11 11 (.offp 0 (.offp 1 (.var 6))) (.var 40))), (.ld none (.offp 1 (.var 7)))])
 (.seq
 (.newR 0 10 68 (.const zA4))
 (.seq
 (.newR 1 11 68 (.const zA4))
 (.seq
 (.store 11 (.var 10) (.var 12) [])
 (.seq
 (.store 11 (.var 11) (.var 9) [])
 .skip))))))))))))))))
 (.seq
 (.seq
 .skip
 (.seq
 (.chk [(.ld (some 5) (.var 7))])
 (.seq
 (.set 18 (.bin .add (.ld none (.offp 0 (.var 6))) (.const (.int .i64 1))))
 (.seq
 (.call (some 16) 54 [(.ld none (.offp 0 (.var 6))), (.ld (some 5) (.var 7))] [(.ld none (.offp 0 (.var 6)))])
 (.seq
 (.set 17 (.var 16))
 (.set 19 (.var 18)))))))
 (.seq
 (.cond (.pick (.bin .eql (.ld none (.offp 0 (.var 10))) (.const (.int .i64 1))) (.bin .eql (.ld none (.offp 0 (.var 11))) (.const (.int .i64 1))) (.const (.bool false)))
 (.seq
 (.seq
 .skip
 (.seq
 (.chk [(.var 17), (.ld (some 5) (.var 8)), (.ld (some 5) (.var 7))])
 (.seq
 (.set 21 (.ld (some 274) (.var 6)))
 (.seq
 (.set 22 (.ld (some 5) (.var 7)))
 (.seq
 (.set 23 (.ld (some 5) (.var 8)))
 (.seq
 (.chk [(.var 19)])
 (.seq
 (.call (some 20) 95 [(.ld (some 274) (.var 6)), (.ld (some 5) (.var 7)), (.ld (some 5) (.var 8)), (.const (.bool true)), (.var 17)] [(.ld (some 5) (.var 8)), (.ld (some 5) (.var 7)), (.ld (some 274) (.var 6))])
 (.seq
 (.call (some 24) 95 [(.var 21), (.var 22), (.var 23), (.const (.bool false)), (.var 19)] [])
 (.seq
 (.app (some 25) 76 274 (.var 20) (.var 24) [])
 (.seq
 (.set 4 (.var 25))
 (.set 5 (.const (.bool true)))))))))))))
 .ret)
 .skip)
 (.seq
 (.cond (.pick (.pick (.pick (.pick (.pick (.bin .eql (.ld none (.offp 0 (.var 10))) (.const (.int .i64 0))) (.const (.bool true)) (.bin .eql (.ld none (.offp 0 (.var 10))) (.const (.int .i64 1)))) (.const (.bool true)) (.ld none (.offp 4 (.var 8)))) (.const (.bool true)) (.bin .neq (.ld none (.offp 4 (.var 7))) (.const (.int .i32 0)))) (.const (.bool true)) (.un .not (.ld none (.offp 3 (.var 8))))) (.const (.bool true)) (.pick (.bin .neq (.ld none (.offp 1 (.var 8))) (.const (.int .i64 1))) (.bin .neq (.ld none (.offp 1 (.var 8))) (.const (.int .i64 5))) (.const (.bool false))))
 (.seq
 (.seq
 (.set 4 (.const (.slice none 0 0)))
 (.set 5 (.const (.bool false))))
 .ret)
 .skip)
 (.seq
 (.cond (.bin .eql (.ld none (.offp 1 (.var 8))) (.const (.int .i64 1)))
 (.seq
 (.chk [(.var 19)])
 (.seq
 (.set 26 (.var 17))
 (.seq
 (.set 17 (.var 19))
 (.set 19 (.var 26)))))
 .skip)
 (.seq
 (.cond (.bin .neq (.ld none (.offp 0 (.var 10))) (.const (.int .i64 6)))
 (.seq
 (.seq
 (.call (some 27) 53 [(.ld (some 274) (.var 6)), (.var 17)] [])
 (.seq
 (.row (some 28) 76 1 (.upd 0 274 (.const zA8) (.var 27)))
 (.seq
 (.set 4 (.var 28))
 (.set 5 (.const (.bool true))))))
 .ret)
 .skip)
 (.seq
 (.seq
 .skip
 (.seq
 (.set 34 (.ld (some 274) (.var 6)))
 (.seq
 (.chk [(.var 17)])
 (.seq
 (.set 30 (.ld (some 274) (.var 6)))
 (.seq
 (.resv 2)
 (.seq
 (.seq
 (.set 32 (.const (.bool true)))
 (.seq
 (.set 33 (.const (.bool true)))
 .skip))
 (.seq
 (.chk [(.var 32), (.var 33)])
 (.seq
 (.clr [32, 33])
 (.seq
 (.chk [(.const zA8), (.const zA8)])
 (.seq
 (.chk [(.var 19)])
 (.seq
 (.call (some 29) 53 [(.var 34), (.var 17)] [(.ld (some 274) (.var 6)), (.ld (some 274) (.var 6))])
 (.seq
 (.call (some 31) 53 [(.var 30), (.var 19)] [(.ld (some 274) (.var 6)), (.ld (some 274) (.var 6))])
 (.seq
 (.newR 0 32 76 (.const zA8))
 (.seq
 (.newR 1 33 76 (.const zA8))
 (.seq
 (.store 274 (.var 32) (.var 29) [])
 (.seq
 (.store 274 (.var 33) (.var 31) [])
 .skip))))))))))))))))
 (.seq
 (.seq
 .skip
 (.seq
 (.chk [(.ld none (.offp 8 (.var 10)))])
 (.seq
 (.set 36 (.ld (some 273) (.offp 1 (.var 6))))
 (.seq
 (.set 37 (.ld none (.offp 8 (.var 10))))
 (.seq
 (.call (some 35) 96 [(.ld (some 273) (.offp 1 (.var 6))), (.ld none (.offp 8 (.var 10))), (.const (.bool true))] [(.ld none (.offp 8 (.var 10))), (.ld (some 273) (.offp 1 (.var 6)))])
 (.seq
 (.chk [(.offp 1 (.var 32))])
 (.seq
 (.call (some 38) 96 [(.var 36), (.var 37), (.const (.bool false))] [])
 (.seq
 (.store 273 (.offp 1 (.var 32)) (.var 35) [])
 (.store 273 (.offp 1 (.var 33)) (.var 38) [])))))))))
 (.seq
 (.seq
 (.row (some 39) 76 2 (.upd 274 274 (.upd 0 274 (.const zA9) (.ld (some 274) (.var 32))) (.ld (some 274) (.var 33))))
 (.seq
 (.set 4 (.var 39))
 (.set 5 (.const (.bool true)))))
 .ret)))))))))),
  [(.var 4), (.var 5)]⟩
theorem cmp_52 : compile Tryz.prog Tryz.f52 [0, 1, 2, 3, 8, 9, 5, 6, 7, 27, 10, 11, 21, 23, 24, 26, 31, 12, 34, 13, 47, 48, 49, 50, 52, 53, 90, 96, 97, 100, 101, 103, 14, 15, 98, 108, 110, 112, 113, 118, 17] [] = some (cm52, [(.var 4), (.var 5)]) := by kernel_rfl
theorem tox_52 : toX Tryz.prog 0 161 cm52 = some xf52.c := by kernel_rfl
theorem okx_52 : FnOk Tryz.prog 0 161 52 xf52 := fnOk_parts Tryz.func52 (by kernel_rfl) (by kernel_rfl) cmp_52 tox_52 (by kernel_rfl)
end Go.Proofs.YtkgpmjjleemdlaaGreat
