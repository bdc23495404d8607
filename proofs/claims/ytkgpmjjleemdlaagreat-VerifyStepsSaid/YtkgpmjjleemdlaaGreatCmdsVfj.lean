/- Commands of functions, and that they are what the code comes to. -/
import Derived.Test.YtkgpmjjleemdlaaGreatVf0
import Derived.Test.YtkgpmjjleemdlaaGreatRows

namespace Go.Proofs.YtkgpmjjleemdlaaGreat
open Go.Eng
/- tipstaff/absreg.Start -/
def c_absreg_Start : Cmd :=
  (.seq
   (.new (some 0) 73 (.const (.agg AState.zero.arr)) [])
  (.seq
   (.new (some 1) 73 (.const (.agg AState.zero.arr)) [])
  (.seq
   (.seq
    (.chk [(.upd 0 1 (.const (.agg AReg.zero.arr)) (.const (.int .i64 2)))])
   (.store 11 (.ixArr 11 11 (.offp 0 (.var 1)) (.const (.int .i64 1))) (.upd 0 1 (.const (.agg AReg.zero.arr)) (.const (.int .i64 2))) []))
  (.seq
   (.seq
    (.chk [(.upd 0 1 (.const (.agg AReg.zero.arr)) (.const (.int .i64 3)))])
   (.store 11 (.ixArr 11 11 (.offp 0 (.var 1)) (.const (.int .i64 10))) (.upd 0 1 (.const (.agg AReg.zero.arr)) (.const (.int .i64 3))) []))
  (.seq
   (.store 273 (.var 0) (.ld (some 273) (.var 1)) [])
  .ret)))))
abbrev v_absreg_Start : List Nat := [0, 1]
abbrev k_absreg_Start : List (List Nat) := []
abbrev r_absreg_Start : List Ex := [(.ld (some 273) (.var 0))]
theorem ok_absreg_Start : compile Tryz.prog Tryz.f19 v_absreg_Start k_absreg_Start = some (c_absreg_Start, r_absreg_Start) := by kernel_rfl

/- tipstaff/verify.known -/
def c_verify_known : Cmd :=
  (.seq
   (.new (some 1) 68 (.const (.agg AReg.zero.arr)) [])
  (.seq
   (.seq
    (.call (some 2) 119 [(.var 0)] [])
   (.seq
    (.chk [(.upd 1 6 (.upd 0 1 (.const (.agg AReg.zero.arr)) (.const (.int .i64 1))) (.var 2))])
   (.store 11 (.var 1) (.upd 1 6 (.upd 0 1 (.const (.agg AReg.zero.arr)) (.const (.int .i64 1))) (.var 2)) [])))
  .ret))
abbrev v_verify_known : List Nat := [0, 2, 4]
abbrev k_verify_known : List (List Nat) := []
abbrev r_verify_known : List Ex := [(.ld (some 11) (.var 1))]
theorem ok_verify_known : compile Tryz.prog Tryz.f91 v_verify_known k_verify_known = some (c_verify_known, r_verify_known) := by kernel_rfl

/- tipstaff/verify.second -/
def c_verify_second : Cmd :=
  (.seq
   (.seq
    (.new (some 4) 73 (.var 0) [])
   (.seq
    (.new (some 5) 28 (.var 1) [])
   (.new (some 3) 68 (.const (.agg AReg.zero.arr)) [])))
  (.seq
   (.cond (.var 2)
     (.seq
      (.store 11 (.var 3) (.ld (some 11) (.ixArr 11 11 (.offp 0 (.var 4)) (.ld none (.offp 2 (.var 5))))) [])
     .ret)
     .skip)
  (.seq
   (.seq
    (.call (some 6) 91 [(.conv .u64 (.conv .i64 (.ld none (.offp 4 (.var 5)))))] [])
   (.store 11 (.var 3) (.var 6) []))
  .ret)))
abbrev v_verify_second : List Nat := [0, 1, 2, 6, 3, 4, 17]
abbrev k_verify_second : List (List Nat) := []
abbrev r_verify_second : List Ex := [(.ld (some 11) (.var 3))]
theorem ok_verify_second : compile Tryz.prog Tryz.f58 v_verify_second k_verify_second = some (c_verify_second, r_verify_second) := by kernel_rfl

/- tipstaff/scalar.Const -/
def c_scalar_Const : Cmd :=
  (.seq
   (.new (some 1) 66 (.const (.agg #[(.int .u64 0), (.int .u64 0), (.int .u64 0), (.int .u64 0), (.int .i64 0), (.int .i64 0)])) [])
  (.seq
   (.seq
    (.call (some 2) 141 [(.var 0)] [])
   (.seq
    (.chk [(.upd 5 1 (.upd 4 1 (.upd 3 1 (.upd 2 1 (.upd 0 2 (.const (.agg #[(.int .u64 0), (.int .u64 0), (.int .u64 0), (.int .u64 0), (.int .i64 0), (.int .i64 0)])) (.var 2)) (.var 0)) (.var 0)) (.conv .i64 (.var 0))) (.conv .i64 (.var 0)))])
   (.store 6 (.var 1) (.upd 5 1 (.upd 4 1 (.upd 3 1 (.upd 2 1 (.upd 0 2 (.const (.agg #[(.int .u64 0), (.int .u64 0), (.int .u64 0), (.int .u64 0), (.int .i64 0), (.int .i64 0)])) (.var 2)) (.var 0)) (.var 0)) (.conv .i64 (.var 0))) (.conv .i64 (.var 0))) [])))
  .ret))
abbrev v_scalar_Const : List Nat := [0, 2, 4]
abbrev k_scalar_Const : List (List Nat) := []
abbrev r_scalar_Const : List Ex := [(.ld (some 6) (.var 1))]
theorem ok_scalar_Const : compile Tryz.prog Tryz.f119 v_scalar_Const k_scalar_Const = some (c_scalar_Const, r_scalar_Const) := by kernel_rfl

/- tipstaff/tnum.Const -/
def c_tnum_Const : Cmd :=
  (.seq
   (.new (some 1) 64 (.const (.agg #[(.int .u64 0), (.int .u64 0)])) [])
  (.seq
   (.seq
    (.chk [(.upd 0 1 (.const (.agg #[(.int .u64 0), (.int .u64 0)])) (.var 0))])
   (.store 2 (.var 1) (.upd 0 1 (.const (.agg #[(.int .u64 0), (.int .u64 0)])) (.var 0)) []))
  .ret))
abbrev v_tnum_Const : List Nat := [0, 2]
abbrev k_tnum_Const : List (List Nat) := []
abbrev r_tnum_Const : List Ex := [(.ld (some 2) (.var 1))]
theorem ok_tnum_Const : compile Tryz.prog Tryz.f141 v_tnum_Const k_tnum_Const = some (c_tnum_Const, r_tnum_Const) := by kernel_rfl

/- tipstaff/scalar.Do -/
def c_scalar_Do : Cmd :=
  (.seq
   (.seq
    (.new (some 5) 66 (.var 2) [])
   (.seq
    (.new (some 6) 66 (.var 3) [])
   (.new (some 4) 66 (.const (.agg #[(.int .u64 0), (.int .u64 0), (.int .u64 0), (.int .u64 0), (.int .i64 0), (.int .i64 0)])) [])))
  (.seq
   (.seq
    (.seq
     (.call (some 7) 120 [(.ld (some 6) (.var 5))] [])
    (.seq
     (.chk [(.pick (.var 7) (.ld (some 6) (.var 6)) (.const (.bool false)))])
    (.cond (.pick (.var 7) (.const (.bool true)) (.const (.bool false)))
      (.call (some 8) 120 [(.ld (some 6) (.var 6))] [])
      (.clr [8]))))
   (.cond (.pick (.var 7) (.var 8) (.const (.bool false)))
     (.seq
      (.seq
       (.call (some 9) 121 [(.var 0), (.var 1), (.ld none (.offp 2 (.var 5))), (.ld none (.offp 2 (.var 6)))] [])
      (.seq
       (.call (some 10) 119 [(.var 9)] [])
      (.store 6 (.var 4) (.var 10) [])))
     .ret)
     .skip))
  (.seq
   (.cond (.var 1)
     (.seq
      (.seq
       (.call (some 11) 122 [(.var 0), (.const (.bool true)), (.ld (some 6) (.var 5)), (.ld (some 6) (.var 6))] [])
      (.store 6 (.var 4) (.var 11) []))
     .ret)
     .skip)
  (.seq
   (.seq
    .draw
   (.seq
    (.chk [(.ld (some 6) (.var 5)), (.var 0)])
   (.seq
    (.set 13 (.ld (some 6) (.var 6)))
   (.seq
    (.call (some 12) 123 [(.ld (some 6) (.var 5)), (.const (.int .i64 4))] [(.ld (some 6) (.var 6))])
   (.seq
    (.call (some 14) 123 [(.var 13), (.const (.int .i64 4))] [])
   (.seq
    (.call (some 15) 122 [(.var 0), (.const (.bool false)), (.var 12), (.var 14)] [])
   (.seq
    (.call (some 16) 123 [(.var 15), (.const (.int .i64 4))] [])
   (.store 6 (.var 4) (.var 16) []))))))))
  .ret))))
abbrev v_scalar_Do : List Nat := [0, 1, 2, 3, 8, 6, 7, 10, 13, 21, 22, 27, 30, 31, 32, 33, 34]
abbrev k_scalar_Do : List (List Nat) := []
abbrev r_scalar_Do : List Ex := [(.ld (some 6) (.var 4))]
theorem ok_scalar_Do : compile Tryz.prog Tryz.f92 v_scalar_Do k_scalar_Do = some (c_scalar_Do, r_scalar_Do) := by kernel_rfl

/- tipstaff/scalar.alone -/
def c_scalar_alone : Cmd :=
  (.seq
   (.seq
    (.new (some 2) 66 (.var 0) [])
   (.set 1 (.const (.bool false))))
  (.seq
   (.seq
    (.set 4 (.pick (.pick (.bin .eql (.ld none (.offp 1 (.offp 0 (.var 2)))) (.const (.int .u64 0))) (.bin .eql (.ld none (.offp 2 (.var 2))) (.ld none (.offp 3 (.var 2)))) (.const (.bool false))) (.bin .eql (.ld none (.offp 4 (.var 2))) (.ld none (.offp 5 (.var 2)))) (.const (.bool false))))
   (.seq
    (.chk [(.pick (.var 4) (.ld none (.offp 2 (.var 2))) (.const (.bool false))), (.pick (.var 4) (.ld (some 6) (.var 2)) (.const (.bool false)))])
   (.seq
    (.cond (.pick (.var 4) (.const (.bool true)) (.const (.bool false)))
      (.call (some 3) 142 [(.ld (some 6) (.var 2)), (.ld none (.offp 2 (.var 2)))] [])
      (.clr [3]))
   (.set 1 (.pick (.var 4) (.var 3) (.const (.bool false)))))))
  .ret))
abbrev v_scalar_alone : List Nat := [0, 2, 1, 25, 21]
abbrev k_scalar_alone : List (List Nat) := []
abbrev r_scalar_alone : List Ex := [(.var 1)]
theorem ok_scalar_alone : compile Tryz.prog Tryz.f120 v_scalar_alone k_scalar_alone = some (c_scalar_alone, r_scalar_alone) := by kernel_rfl

/- tipstaff/scalar.Has -/
def c_scalar_Has : Cmd :=
  (.seq
   (.seq
    (.new (some 3) 66 (.var 0) [])
   (.set 2 (.const (.bool false))))
  (.seq
   (.seq
    (.call (some 4) 159 [(.ld (some 2) (.offp 0 (.var 3))), (.var 1)] [])
   (.set 2 (.pick (.pick (.pick (.pick (.var 4) (.bin .leq (.ld none (.offp 2 (.var 3))) (.var 1)) (.const (.bool false))) (.bin .leq (.var 1) (.ld none (.offp 3 (.var 3)))) (.const (.bool false))) (.bin .leq (.ld none (.offp 4 (.var 3))) (.conv .i64 (.var 1))) (.const (.bool false))) (.bin .leq (.conv .i64 (.var 1)) (.ld none (.offp 5 (.var 3)))) (.const (.bool false)))))
  .ret))
abbrev v_scalar_Has : List Nat := [0, 1, 4, 2, 8]
abbrev k_scalar_Has : List (List Nat) := []
abbrev r_scalar_Has : List Ex := [(.var 2)]
theorem ok_scalar_Has : compile Tryz.prog Tryz.f142 v_scalar_Has k_scalar_Has = some (c_scalar_Has, r_scalar_Has) := by kernel_rfl

/- tipstaff/tnum.Has -/
def c_tnum_Has : Cmd :=
  (.seq
   (.seq
    (.new (some 3) 64 (.var 0) [])
   (.set 2 (.const (.bool false))))
  (.seq
   (.set 2 (.bin .eql (.bin .andNot (.var 1) (.ld none (.offp 1 (.var 3)))) (.ld none (.offp 0 (.var 3)))))
  .ret))
abbrev v_tnum_Has : List Nat := [0, 1, 4, 2]
abbrev k_tnum_Has : List (List Nat) := []
abbrev r_tnum_Has : List Ex := [(.var 2)]
theorem ok_tnum_Has : compile Tryz.prog Tryz.f159 v_tnum_Has k_tnum_Has = some (c_tnum_Has, r_tnum_Has) := by kernel_rfl

/- (tipstaff/verify.way).set -/
def c_verify_way_set : Cmd :=
  (.seq
   (.seq
    (.new (some 5) 76 (.var 0) [])
   (.seq
    (.new (some 6) 68 (.var 2) [])
   (.set 4 (.const (.slice none 0 0)))))
  (.seq
   (.store 11 (.ixArr 11 11 (.offp 0 (.offp 1 (.var 5))) (.var 1)) (.ld (some 11) (.var 6)) [])
  (.seq
   (.store 1 (.offp 0 (.var 5)) (.bin .add (.ld none (.offp 0 (.var 5))) (.var 3)) [])
  (.seq
   (.seq
    (.row (some 7) 76 1 (.upd 0 274 (.const (.agg (wayArr 0 AState.zero))) (.ld (some 274) (.var 5))) [])
   (.set 4 (.var 7)))
  .ret))))
abbrev v_verify_way_set : List Nat := [0, 1, 2, 3, 8, 4, 6, 20]
abbrev k_verify_way_set : List (List Nat) := []
abbrev r_verify_way_set : List Ex := [(.var 4)]
theorem ok_verify_way_set : compile Tryz.prog Tryz.f93 v_verify_way_set k_verify_way_set = some (c_verify_way_set, r_verify_way_set) := by kernel_rfl

/- (*tipstaff/verify.checker).alu -/
def c_verify_checker_alu : Cmd :=
  (.seq
   (.seq
    (.new (some 6) 76 (.var 1) [])
   (.seq
    (.new (some 7) 28 (.var 2) [])
   (.seq
    (.new (some 8) 82 (.var 3) [])
   (.seq
    (.set 4 (.const (.slice none 0 0)))
   (.set 5 (.const (.bool false)))))))
  (.seq
   (.seq
    .draw
   (.seq
    (.set 24 (.ld none (.offp 1 (.var 7))))
   (.seq
    (.set 12 (.ld (some 11) (.ixArr 11 11 (.offp 0 (.offp 1 (.var 6))) (.var 24))))
   (.seq
    (.set 13 (.ld (some 273) (.offp 1 (.var 6))))
   (.seq
    (.set 14 (.ld (some 5) (.var 7)))
   (.seq
    (.set 15 (.ld none (.offp 4 (.var 8))))
   (.alt
    (.seq
     (.call (some 9) 58 [(.var 13), (.var 14), (.var 15)] [(.ld none (.offp 4 (.var 8))), (.ld (some 5) (.var 7)), (.ld (some 273) (.offp 1 (.var 6))), (.ld (some 11) (.ixArr 11 11 (.offp 0 (.offp 1 (.var 6))) (.var 24))), (.ld none (.offp 1 (.var 7)))])
    (.alt
     (.seq
      (.new (some 10) 68 (.const (.agg AReg.zero.arr)) [(.ld none (.offp 4 (.var 8))), (.ld (some 5) (.var 7)), (.ld (some 273) (.offp 1 (.var 6))), (.ld (some 11) (.ixArr 11 11 (.offp 0 (.offp 1 (.var 6))) (.var 24))), (.ld none (.offp 1 (.var 7)))])
     (.seq
      (.new (some 11) 68 (.const (.agg AReg.zero.arr)) [(.ld none (.offp 4 (.var 8))), (.ld (some 5) (.var 7)), (.ld (some 273) (.offp 1 (.var 6))), (.ld (some 11) (.ixArr 11 11 (.offp 0 (.offp 1 (.var 6))) (.var 24))), (.ld none (.offp 1 (.var 7)))])
     (.seq
      (.store 11 (.var 10) (.var 12) [])
     (.store 11 (.var 11) (.var 9) []))))
    (.seq
     (.new (some 11) 68 (.const (.agg AReg.zero.arr)) [(.ld none (.offp 4 (.var 8))), (.ld (some 5) (.var 7)), (.ld (some 273) (.offp 1 (.var 6))), (.ld (some 11) (.ixArr 11 11 (.offp 0 (.offp 1 (.var 6))) (.var 24))), (.ld none (.offp 1 (.var 7)))])
    (.seq
     (.new (some 10) 68 (.const (.agg AReg.zero.arr)) [(.ld none (.offp 4 (.var 8))), (.ld (some 5) (.var 7)), (.ld (some 273) (.offp 1 (.var 6))), (.ld (some 11) (.ixArr 11 11 (.offp 0 (.offp 1 (.var 6))) (.var 24))), (.ld none (.offp 1 (.var 7)))])
    (.seq
     (.store 11 (.var 10) (.var 12) [])
    (.store 11 (.var 11) (.var 9) []))))))
   (.alt
    (.seq
     (.new (some 10) 68 (.const (.agg AReg.zero.arr)) [(.ld none (.offp 4 (.var 8))), (.ld (some 5) (.var 7)), (.ld (some 273) (.offp 1 (.var 6))), (.ld (some 11) (.ixArr 11 11 (.offp 0 (.offp 1 (.var 6))) (.var 24))), (.ld none (.offp 1 (.var 7)))])
    (.alt
     (.seq
      (.call (some 9) 58 [(.var 13), (.var 14), (.var 15)] [(.ld none (.offp 4 (.var 8))), (.ld (some 5) (.var 7)), (.ld (some 273) (.offp 1 (.var 6))), (.ld (some 11) (.ixArr 11 11 (.offp 0 (.offp 1 (.var 6))) (.var 24))), (.ld none (.offp 1 (.var 7)))])
     (.seq
      (.new (some 11) 68 (.const (.agg AReg.zero.arr)) [(.ld none (.offp 4 (.var 8))), (.ld (some 5) (.var 7)), (.ld (some 273) (.offp 1 (.var 6))), (.ld (some 11) (.ixArr 11 11 (.offp 0 (.offp 1 (.var 6))) (.var 24))), (.ld none (.offp 1 (.var 7)))])
     (.seq
      (.store 11 (.var 10) (.var 12) [])
     (.store 11 (.var 11) (.var 9) []))))
    (.seq
     (.new (some 11) 68 (.const (.agg AReg.zero.arr)) [(.ld none (.offp 4 (.var 8))), (.ld (some 5) (.var 7)), (.ld (some 273) (.offp 1 (.var 6))), (.ld (some 11) (.ixArr 11 11 (.offp 0 (.offp 1 (.var 6))) (.var 24))), (.ld none (.offp 1 (.var 7)))])
    (.seq
     (.call (some 9) 58 [(.var 13), (.var 14), (.var 15)] [(.ld (some 11) (.ixArr 11 11 (.offp 0 (.offp 1 (.var 6))) (.var 24))), (.ld none (.offp 1 (.var 7)))])
    (.seq
     (.store 11 (.var 10) (.var 12) [])
    (.store 11 (.var 11) (.var 9) []))))))
   (.seq
    (.new (some 11) 68 (.const (.agg AReg.zero.arr)) [(.ld none (.offp 4 (.var 8))), (.ld (some 5) (.var 7)), (.ld (some 273) (.offp 1 (.var 6))), (.ld (some 11) (.ixArr 11 11 (.offp 0 (.offp 1 (.var 6))) (.var 24))), (.ld none (.offp 1 (.var 7)))])
   (.alt
    (.seq
     (.call (some 9) 58 [(.var 13), (.var 14), (.var 15)] [(.ld none (.offp 4 (.var 8))), (.ld (some 5) (.var 7)), (.ld (some 273) (.offp 1 (.var 6))), (.ld (some 11) (.ixArr 11 11 (.offp 0 (.offp 1 (.var 6))) (.var 24))), (.ld none (.offp 1 (.var 7)))])
    (.seq
     (.new (some 10) 68 (.const (.agg AReg.zero.arr)) [(.ld none (.offp 4 (.var 8))), (.ld (some 5) (.var 7)), (.ld (some 273) (.offp 1 (.var 6))), (.ld (some 11) (.ixArr 11 11 (.offp 0 (.offp 1 (.var 6))) (.var 24))), (.ld none (.offp 1 (.var 7)))])
    (.seq
     (.store 11 (.var 10) (.var 12) [])
    (.store 11 (.var 11) (.var 9) []))))
   (.seq
    (.new (some 10) 68 (.const (.agg AReg.zero.arr)) [(.ld none (.offp 4 (.var 8))), (.ld (some 5) (.var 7)), (.ld (some 273) (.offp 1 (.var 6))), (.ld (some 11) (.ixArr 11 11 (.offp 0 (.offp 1 (.var 6))) (.var 24))), (.ld none (.offp 1 (.var 7)))])
   (.seq
    (.call (some 9) 58 [(.var 13), (.var 14), (.var 15)] [(.ld (some 11) (.ixArr 11 11 (.offp 0 (.offp 1 (.var 6))) (.var 24))), (.ld none (.offp 1 (.var 7)))])
   (.seq
    (.store 11 (.var 10) (.var 12) [])
   (.store 11 (.var 11) (.var 9) []))))))))))))))
  (.seq
   (.cond (.pick (.bin .eql (.ld none (.offp 1 (.var 8))) (.const (.int .i64 11))) (.bin .eql (.ld none (.offp 0 (.var 11))) (.const (.int .i64 1))) (.const (.bool false)))
     (.seq
      (.call (some 16) 91 [(.const (.int .u64 0))] [])
     (.store 11 (.var 10) (.var 16) []))
     .skip)
  (.seq
   (.cond (.pick (.bin .eql (.ld none (.offp 0 (.var 10))) (.const (.int .i64 1))) (.bin .eql (.ld none (.offp 0 (.var 11))) (.const (.int .i64 1))) (.const (.bool false)))
     (.seq
      (.seq
       (.call (some 17) 92 [(.ld none (.offp 1 (.var 8))), (.ld none (.offp 3 (.var 8))), (.ld (some 6) (.offp 1 (.var 10))), (.ld (some 6) (.offp 1 (.var 11)))] [])
      (.seq
       (.chk [(.upd 1 6 (.upd 0 1 (.const (.agg AReg.zero.arr)) (.const (.int .i64 1))) (.var 17))])
      (.seq
       (.new (some 18) 68 (.const (.agg AReg.zero.arr)) [])
      (.store 11 (.var 18) (.upd 1 6 (.upd 0 1 (.const (.agg AReg.zero.arr)) (.const (.int .i64 1))) (.var 17)) []))))
     (.seq
      (.seq
       (.call (some 19) 93 [(.ld (some 274) (.var 6)), (.ld none (.offp 1 (.var 7))), (.ld (some 11) (.var 18)), (.const (.int .i64 1))] [])
      (.seq
       (.set 4 (.var 19))
      (.set 5 (.const (.bool true)))))
     .ret))
     .skip)
  (.seq
   (.seq
    (.call (some 20) 94 [(.var 0), (.ld none (.offp 1 (.var 8))), (.ld (some 11) (.var 10)), (.ld (some 11) (.var 11))] [])
   (.seq
    (.chk [(.proj 1 (.var 20)), (.proj 0 (.var 20))])
   (.seq
    (.new (some 21) 68 (.const (.agg AReg.zero.arr)) [])
   (.seq
    (.store 11 (.var 21) (.proj 0 (.var 20)) [])
   (.set 22 (.proj 1 (.var 20)))))))
  (.seq
   (.cond (.pick (.pick (.un .not (.var 22)) (.const (.bool true)) (.un .not (.ld none (.offp 3 (.var 8))))) (.const (.bool true)) (.bin .eql (.ld none (.offp 1 (.var 8))) (.const (.int .i64 8))))
     (.seq
      (.seq
       (.set 4 (.const (.slice none 0 0)))
      (.set 5 (.const (.bool false))))
     .ret)
     .skip)
  (.seq
   (.seq
    (.call (some 23) 93 [(.ld (some 274) (.var 6)), (.ld none (.offp 1 (.var 7))), (.ld (some 11) (.var 21)), (.const (.int .i64 1))] [])
   (.seq
    (.set 4 (.var 23))
   (.set 5 (.const (.bool true)))))
  .ret)))))))
abbrev v_verify_checker_alu : List Nat := [0, 1, 2, 3, 8, 9, 5, 6, 7, 26, 10, 11, 20, 22, 23, 25, 35, 52, 12, 58, 65, 13, 14, 84, 16]
abbrev k_verify_checker_alu : List (List Nat) := []
abbrev r_verify_checker_alu : List Ex := [(.var 4), (.var 5)]
theorem ok_verify_checker_alu : compile Tryz.prog Tryz.f51 v_verify_checker_alu k_verify_checker_alu = some (c_verify_checker_alu, r_verify_checker_alu) := by kernel_rfl

/- (*tipstaff/verify.checker).step -/
def c_verify_checker_step : Cmd :=
  (.seq
   (.seq
    (.new (some 4) 76 (.var 1) [])
   (.seq
    (.set 2 (.const (.slice none 0 0)))
   (.set 3 (.const (.bool false)))))
  (.seq
   (.seq
    .draw
   (.seq
    (.set 34 (.ld none (.offp 0 (.nn (.var 0)))))
   (.seq
    (.set 35 (.ld none (.offp 0 (.var 4))))
   (.seq
    (.set 6 (.ld (some 5) (.ixSl 5 (.var 34) (.var 35))))
   (.seq
    (.new (some 5) 28 (.const (.agg #[(.int .u8 0), (.int .u8 0), (.int .u8 0), (.int .i16 0), (.int .i32 0)])) [(.ld (some 5) (.ixSl 5 (.var 34) (.var 35))), (.ld none (.offp 0 (.var 4))), (.ld none (.offp 0 (.nn (.var 0))))])
   (.store 5 (.var 5) (.var 6) []))))))
  (.seq
   (.seq
    (.call (some 7) 24 [(.ld none (.offp 0 (.var 5)))] [])
   (.seq
    (.new (some 8) 82 (.const (.agg #[(.int .i64 0), (.int .i64 0), (.int .i64 0), (.bool false), (.bool false)])) [])
   (.store 5 (.var 8) (.var 7) [])))
  (.seq
   (.seq
    (.set 9 (.ld none (.offp 0 (.var 8))))
   (.block 0
     (.seq
      (.set 10 (.bin .eql (.var 9) (.const (.int .i64 1))))
     (.cond (.var 10)
       (.seq
        (.seq
         (.call (some 11) 51 [(.var 0), (.ld (some 274) (.var 4)), (.ld (some 5) (.var 5)), (.ld (some 5) (.var 8))] [])
        (.seq
         (.chk [(.proj 1 (.var 11))])
        (.seq
         (.set 2 (.proj 0 (.var 11)))
        (.set 3 (.proj 1 (.var 11))))))
       .ret)
       (.seq
        (.set 12 (.bin .eql (.var 9) (.const (.int .i64 2))))
       (.cond (.var 12)
         (.seq
          (.seq
           (.call (some 13) 52 [(.var 0), (.ld (some 274) (.var 4)), (.ld (some 5) (.var 5)), (.ld (some 5) (.var 8))] [])
          (.seq
           (.chk [(.proj 1 (.var 13))])
          (.seq
           (.set 2 (.proj 0 (.var 13)))
          (.set 3 (.proj 1 (.var 13))))))
         .ret)
         (.seq
          (.set 14 (.bin .eql (.var 9) (.const (.int .i64 3))))
         (.cond (.var 14)
           (.seq
            (.seq
             .draw
            (.seq
             (.set 16 (.ld (some 274) (.var 4)))
            (.seq
             (.call (some 15) 54 [(.ld none (.offp 0 (.var 4))), (.ld (some 5) (.var 5))] [(.ld (some 274) (.var 4))])
            (.seq
             (.call (some 17) 53 [(.var 16), (.var 15)] [])
            (.seq
             (.row (some 18) 76 1 (.upd 0 274 (.const (.agg (wayArr 0 AState.zero))) (.var 17)) [])
            (.seq
             (.set 2 (.var 18))
            (.set 3 (.const (.bool true)))))))))
           .ret)
           (.seq
            (.set 19 (.bin .eql (.var 9) (.const (.int .i64 4))))
           (.cond (.var 19)
             (.seq
              (.seq
               (.call (some 20) 55 [(.var 0), (.ld (some 274) (.var 4)), (.ld (some 5) (.var 5))] [])
              (.seq
               (.chk [(.proj 1 (.var 20))])
              (.seq
               (.set 2 (.proj 0 (.var 20)))
              (.set 3 (.proj 1 (.var 20))))))
             .ret)
             (.seq
              (.set 21 (.bin .eql (.var 9) (.const (.int .i64 5))))
             (.cond (.var 21)
               (.seq
                (.seq
                 .draw
                (.seq
                 (.chk [(.bin .eql (.ld none (.offp 0 (.ixArr 11 11 (.offp 0 (.offp 1 (.var 4))) (.const (.int .i64 0))))) (.const (.int .i64 1)))])
                (.seq
                 (.set 2 (.const (.slice none 0 0)))
                (.set 3 (.bin .eql (.ld none (.offp 0 (.ixArr 11 11 (.offp 0 (.offp 1 (.var 4))) (.const (.int .i64 0))))) (.const (.int .i64 1)))))))
               .ret)
               (.seq
                (.set 22 (.bin .eql (.var 9) (.const (.int .i64 6))))
               (.cond (.var 22)
                 (.seq
                  (.seq
                   (.call (some 23) 56 [(.var 0), (.ld (some 274) (.var 4)), (.ld (some 5) (.var 5)), (.ld (some 5) (.var 8))] [])
                  (.seq
                   (.chk [(.proj 1 (.var 23))])
                  (.seq
                   (.set 2 (.proj 0 (.var 23)))
                  (.set 3 (.proj 1 (.var 23))))))
                 .ret)
                 (.seq
                  (.set 24 (.bin .eql (.var 9) (.const (.int .i64 7))))
                 (.cond (.var 24)
                   (.seq
                    (.seq
                     .draw
                    (.seq
                     (.chk [(.var 0)])
                    (.seq
                     (.set 26 (.ld (some 274) (.var 4)))
                    (.seq
                     (.set 27 (.ld (some 5) (.var 5)))
                    (.seq
                     (.set 28 (.ld (some 5) (.var 8)))
                    (.seq
                     (.call (some 25) 58 [(.ld (some 273) (.offp 1 (.var 4))), (.ld (some 5) (.var 5)), (.ld none (.offp 4 (.var 8)))] [(.ld (some 5) (.var 8)), (.ld (some 5) (.var 5)), (.ld (some 274) (.var 4))])
                    (.seq
                     (.call (some 29) 57 [(.var 0), (.var 26), (.var 27), (.var 28), (.var 25)] [])
                    (.seq
                     (.chk [(.proj 1 (.var 29))])
                    (.seq
                     (.set 2 (.proj 0 (.var 29)))
                    (.set 3 (.proj 1 (.var 29))))))))))))
                   .ret)
                   (.seq
                    (.set 30 (.bin .eql (.var 9) (.const (.int .i64 8))))
                   (.cond (.var 30)
                     (.seq
                      (.seq
                       (.call (some 31) 59 [(.var 0), (.ld (some 274) (.var 4)), (.ld (some 5) (.var 5)), (.ld (some 5) (.var 8))] [])
                      (.seq
                       (.chk [(.proj 1 (.var 31))])
                      (.seq
                       (.set 2 (.proj 0 (.var 31)))
                      (.set 3 (.proj 1 (.var 31))))))
                     .ret)
                     (.seq
                      (.set 32 (.bin .eql (.var 9) (.const (.int .i64 9))))
                     (.cond (.var 32)
                       (.seq
                        (.seq
                         (.call (some 33) 60 [(.var 0), (.ld (some 274) (.var 4)), (.ld (some 5) (.var 5))] [])
                        (.seq
                         (.chk [(.proj 1 (.var 33))])
                        (.seq
                         (.set 2 (.proj 0 (.var 33)))
                        (.set 3 (.proj 1 (.var 33))))))
                       .ret)
                       .skip))))))))))))))))))))
  (.seq
   (.seq
    (.set 2 (.const (.slice none 0 0)))
   (.set 3 (.const (.bool false))))
  .ret)))))
abbrev v_verify_checker_step : List Nat := [0, 1, 4, 5, 3, 6, 15, 18, 7, 20, 21, 27, 30, 36, 39, 45, 41, 46, 47, 48, 53, 56, 64, 70, 73, 84, 76, 77, 78, 85, 88, 94, 97, 102, 11, 13]
abbrev k_verify_checker_step : List (List Nat) := []
abbrev r_verify_checker_step : List Ex := [(.var 2), (.var 3)]
theorem ok_verify_checker_step : compile Tryz.prog Tryz.f36 v_verify_checker_step k_verify_checker_step = some (c_verify_checker_step, r_verify_checker_step) := by kernel_rfl

/- (*tipstaff/verify.checker).gone -/
def c_verify_checker_gone : Cmd :=
  (.seq
   (.seq
    (.new (some 3) 76 (.var 1) [])
   (.set 2 (.const (.bool false))))
  (.seq
   (.seq
    .draw
   (.seq
    (.chk [(.cap1 (.const (.func (.func 49) #[] #[])) (.var 3))])
   (.seq
    (.sem (some 4) (.look 59 false) [(.ld none (.offp 5 (.nn (.var 0)))), (.ld none (.offp 0 (.var 3)))] [])
   (.seq
    (.call (some 5) 48 [(.var 4), (.cap1 (.const (.func (.func 49) #[] #[])) (.var 3))] [])
   (.set 2 (.var 5))))))
  .ret))
abbrev v_verify_checker_gone : List Nat := [0, 1, 4, 3, 11, 13]
abbrev k_verify_checker_gone : List (List Nat) := []
abbrev r_verify_checker_gone : List Ex := [(.var 2)]
theorem ok_verify_checker_gone : compile Tryz.prog Tryz.f35 v_verify_checker_gone k_verify_checker_gone = some (c_verify_checker_gone, r_verify_checker_gone) := by kernel_rfl

/- (*tipstaff/verify.checker).run -/
def c_verify_checker_run : Cmd :=
  (.seq
   (.seq
    (.new (some 2) 32 (.const (.agg #[(.int .i64 0), (.int .i64 0)])) [])
   (.set 3 (.const (.int .i64 0))))
  (.seq
   (.set 4 (.const (.int .i64 0)))
  (.seq
   (.block 0
     (.loop [0, 1, 2, 4]
       (.seq
        (.cond (.bin .gtr (.len false (.ld none (.offp 4 (.nn (.var 0))))) (.const (.int .i64 0)))
          .skip
          (.exit 0))
       (.block 1
         (.seq
          (.set 5 (.bin .sub (.len false (.ld none (.offp 4 (.nn (.var 0))))) (.const (.int .i64 1))))
         (.seq
          (.seq
           (.set 7 (.ld (some 274) (.ixSl 274 (.ld none (.offp 4 (.nn (.var 0)))) (.var 5))))
          (.seq
           (.new (some 6) 76 (.const (.agg (wayArr 0 AState.zero))) [])
          (.store 274 (.var 6) (.var 7) [])))
         (.seq
          (.store 1 (.offp 4 (.nn (.var 0))) (.slSl 274 (.ld none (.offp 4 (.nn (.var 0)))) (.const (.int .i64 0)) (.var 5)) [])
         (.seq
          (.seq
           (.call (some 8) 35 [(.var 0), (.ld (some 274) (.var 6))] [])
          (.cond (.var 8)
            (.exit 1)
            .skip))
         (.seq
          (.cond (.bin .eql (.var 4) (.var 1))
            (.seq
             (.seq
              (.chk [(.upd 1 1 (.upd 0 1 (.const (.agg #[(.int .i64 0), (.int .i64 0)])) (.ld none (.offp 0 (.var 6)))) (.var 4))])
             (.seq
              (.store 2 (.var 2) (.upd 1 1 (.upd 0 1 (.const (.agg #[(.int .i64 0), (.int .i64 0)])) (.ld none (.offp 0 (.var 6)))) (.var 4)) [])
             (.set 3 (.const (.int .i64 7)))))
            .ret)
            .skip)
         (.seq
          (.seq
           .draw
          (.seq
           (.set 13 (.ld none (.offp 5 (.nn (.var 0)))))
          (.seq
           (.set 14 (.ld none (.offp 0 (.var 6))))
          (.seq
           (.set 15 (.ld none (.offp 5 (.nn (.var 0)))))
          (.seq
           (.set 16 (.ld none (.offp 0 (.var 6))))
          (.seq
           (.set 10 (.ld (some 273) (.offp 1 (.var 6))))
          (.alt
           (.seq
            (.sem (some 9) (.look 59 false) [(.var 15), (.var 16)] [(.ld (some 273) (.offp 1 (.var 6))), (.ld none (.offp 0 (.var 6))), (.ld none (.offp 5 (.nn (.var 0)))), (.ld none (.offp 0 (.var 6))), (.ld none (.offp 5 (.nn (.var 0))))])
           (.seq
            (.row (some 11) 73 1 (.upd 0 273 (.const (.agg AState.zero.arr)) (.var 10)) [(.ld none (.offp 0 (.var 6))), (.ld none (.offp 5 (.nn (.var 0)))), (.ld none (.offp 0 (.var 6))), (.ld none (.offp 5 (.nn (.var 0))))])
           (.seq
            (.bi (some 12) .append [94, 94] 94 [(.var 9), (.var 11)] [(.ld none (.offp 0 (.var 6))), (.ld none (.offp 5 (.nn (.var 0))))])
           (.sem none (.upd 59) [(.var 13), (.var 14), (.var 12)] []))))
          (.seq
           (.row (some 11) 73 1 (.upd 0 273 (.const (.agg AState.zero.arr)) (.var 10)) [(.ld (some 273) (.offp 1 (.var 6))), (.ld none (.offp 0 (.var 6))), (.ld none (.offp 5 (.nn (.var 0)))), (.ld none (.offp 0 (.var 6))), (.ld none (.offp 5 (.nn (.var 0))))])
          (.seq
           (.sem (some 9) (.look 59 false) [(.var 15), (.var 16)] [(.ld (some 273) (.offp 1 (.var 6))), (.ld none (.offp 0 (.var 6))), (.ld none (.offp 5 (.nn (.var 0))))])
          (.seq
           (.bi (some 12) .append [94, 94] 94 [(.var 9), (.var 11)] [(.ld none (.offp 0 (.var 6))), (.ld none (.offp 5 (.nn (.var 0))))])
          (.sem none (.upd 59) [(.var 13), (.var 14), (.var 12)] [])))))))))))
         (.seq
          (.set 4 (.bin .add (.var 4) (.const (.int .i64 1))))
         (.seq
          (.seq
           (.call (some 17) 36 [(.var 0), (.ld (some 274) (.var 6))] [])
          (.seq
           (.chk [(.proj 1 (.var 17))])
          (.seq
           (.set 18 (.proj 0 (.var 17)))
          (.set 19 (.proj 1 (.var 17))))))
         (.seq
          (.cond (.un .not (.var 19))
            (.seq
             (.seq
              (.chk [(.upd 1 1 (.upd 0 1 (.const (.agg #[(.int .i64 0), (.int .i64 0)])) (.ld none (.offp 0 (.var 6)))) (.var 4))])
             (.seq
              (.store 2 (.var 2) (.upd 1 1 (.upd 0 1 (.const (.agg #[(.int .i64 0), (.int .i64 0)])) (.ld none (.offp 0 (.var 6)))) (.var 4)) [])
             (.set 3 (.const (.int .i64 13)))))
            .ret)
            .skip)
         (.seq
          (.bi (some 20) .append [60, 60] 60 [(.ld none (.offp 4 (.nn (.var 0)))), (.var 18)] [])
         (.store 1 (.offp 4 (.nn (.var 0))) (.var 20) [])))))))))))))))
  (.seq
   (.seq
    (.chk [(.upd 1 1 (.upd 0 1 (.const (.agg #[(.int .i64 0), (.int .i64 0)])) (.const (.int .i64 0))) (.var 4))])
   (.seq
    (.store 2 (.var 2) (.upd 1 1 (.upd 0 1 (.const (.agg #[(.int .i64 0), (.int .i64 0)])) (.const (.int .i64 0))) (.var 4)) [])
   (.set 3 (.const (.int .i64 0)))))
  .ret))))
abbrev v_verify_checker_run : List Nat := [0, 1, 4, 5, 6, 7, 8, 29, 41, 61, 63, 64, 65, 52, 54, 58, 60, 71, 9, 10, 86]
abbrev k_verify_checker_run : List (List Nat) := [[0, 1, 2, 4]]
abbrev r_verify_checker_run : List Ex := [(.ld (some 2) (.var 2)), (.var 3)]
theorem ok_verify_checker_run : compile Tryz.prog Tryz.f20 v_verify_checker_run k_verify_checker_run = some (c_verify_checker_run, r_verify_checker_run) := by kernel_rfl

/- tipstaff/verify.Check -/
def c_verify_Check : Cmd :=
  (.seq
   (.seq
    (.new (some 4) 39 (.var 1) [])
   (.seq
    (.new (some 2) 32 (.const (.agg #[(.int .i64 0), (.int .i64 0)])) [])
   (.set 3 (.const (.int .i64 0)))))
  (.seq
   (.seq
    (.seq
     (.call (some 5) 15 [(.var 0), (.ld none (.offp 2 (.var 4)))] [])
    (.seq
     (.chk [(.proj 1 (.var 5))])
    (.seq
     (.set 6 (.proj 0 (.var 5)))
    (.set 7 (.proj 1 (.var 5))))))
   (.cond (.bin .neq (.var 7) (.const (.int .i64 0)))
     (.seq
      (.cond (.bin .eql (.var 7) (.const (.int .i64 7)))
        (.seq
         (.seq
          (.chk [(.var 7)])
         (.seq
          (.store 2 (.var 2) (.const (.agg #[(.int .i64 0), (.int .i64 0)])) [])
         (.set 3 (.var 7))))
        .ret)
        .skip)
     (.seq
      (.seq
       (.chk [(.upd 0 1 (.const (.agg #[(.int .i64 0), (.int .i64 0)])) (.var 6))])
      (.seq
       (.store 2 (.var 2) (.upd 0 1 (.const (.agg #[(.int .i64 0), (.int .i64 0)])) (.var 6)) [])
      (.set 3 (.const (.int .i64 22)))))
     .ret))
     .skip))
  (.seq
   (.seq
    (.call (some 8) 16 [(.ld none (.offp 0 (.var 4))), (.const (.func (.func 17) #[] #[]))] [])
   (.cond (.var 8)
     (.seq
      (.seq
       (.store 2 (.var 2) (.const (.agg #[(.int .i64 0), (.int .i64 0)])) [])
      (.set 3 (.const (.int .i64 22))))
     .ret)
     .skip))
  (.seq
   (.set 9 (.const (.int .i64 512)))
  (.seq
   (.cond (.ld none (.offp 2 (.var 4)))
     (.set 9 (.const (.int .i64 2048)))
     .skip)
  (.seq
   (.seq
    (.chk [(.var 0)])
   (.seq
    (.set 11 (.ld (some 3) (.var 4)))
   (.seq
    (.sem (some 10) (.mkm 59) [] [])
   (.seq
    (.chk [(.upd 5 1 (.upd 1 3 (.upd 0 1 (.const (.agg #[(.slice none 0 0), (.slice none 0 0), (.slice none 0 0), (.bool false), (.slice none 0 0), (.map none), (.int .i64 0)])) (.var 0)) (.var 11)) (.var 10))])
   (.seq
    (.new (some 12) 62 (.upd 5 1 (.upd 1 3 (.upd 0 1 (.const (.agg #[(.slice none 0 0), (.slice none 0 0), (.slice none 0 0), (.bool false), (.slice none 0 0), (.map none), (.int .i64 0)])) (.var 0)) (.var 11)) (.var 10)) [])
   (.set 13 (.var 12)))))))
  (.seq
   (.seq
    (.chk [(.var 13)])
   (.seq
    (.call (some 14) 19 [] [])
   (.seq
    (.chk [(.upd 1 273 (.upd 0 1 (.const (.agg (wayArr 0 AState.zero))) (.const (.int .i64 0))) (.var 14))])
   (.seq
    (.row (some 15) 76 1 (.upd 0 274 (.const (.agg (wayArr 0 AState.zero))) (.upd 1 273 (.upd 0 1 (.const (.agg (wayArr 0 AState.zero))) (.const (.int .i64 0))) (.var 14))) [])
   (.store 1 (.offp 4 (.nn (.var 13))) (.var 15) [])))))
  (.seq
   (.seq
    (.call (some 16) 20 [(.var 13), (.var 9)] [])
   (.seq
    (.chk [(.proj 1 (.var 16))])
   (.seq
    (.store 2 (.var 2) (.proj 0 (.var 16)) [])
   (.set 3 (.proj 1 (.var 16))))))
  .ret))))))))
abbrev v_verify_Check : List Nat := [0, 1, 4, 5, 3, 14, 6, 7, 27, 8, 33, 32, 35, 9, 37, 39, 44]
abbrev k_verify_Check : List (List Nat) := []
abbrev r_verify_Check : List Ex := [(.ld (some 2) (.var 2)), (.var 3)]
theorem ok_verify_Check : compile Tryz.prog Tryz.f8 v_verify_Check k_verify_Check = some (c_verify_Check, r_verify_Check) := by kernel_rfl

/- slices.ContainsFunc[[]tipstaff/bmap.Spec,tipstaff/bmap.Spec] -/
def c_vf_ContainsFunc : Cmd :=
  (.seq
   (.set 2 (.const (.bool false)))
  (.seq
   (.seq
    (.call (some 3) 33 [(.var 0), (.var 1)] [])
   (.set 2 (.bin .geq (.var 3) (.const (.int .i64 0)))))
  .ret))
abbrev v_vf_ContainsFunc : List Nat := [0, 1, 4, 7]
abbrev k_vf_ContainsFunc : List (List Nat) := []
abbrev r_vf_ContainsFunc : List Ex := [(.var 2)]
theorem ok_vf_ContainsFunc : compile Tryz.prog Tryz.f16 v_vf_ContainsFunc k_vf_ContainsFunc = some (c_vf_ContainsFunc, r_vf_ContainsFunc) := by kernel_rfl

/- slices.IndexFunc[[]tipstaff/bmap.Spec,tipstaff/bmap.Spec] -/
def c_vf_IndexFunc : Cmd :=
  (.seq
   (.set 2 (.const (.int .i64 0)))
  (.seq
   (.seq
    (.seq
     (.set 4 (.len false (.var 0)))
    (.set 3 (.const (.int .i64 0))))
   (.block 0
     (.loop [0, 1, 3, 4]
       (.seq
        (.cond (.bin .lss (.var 3) (.var 4))
          .skip
          (.exit 0))
       (.seq
        (.block 1
          (.seq
           (.set 5 (.var 3))
          (.seq
           (.dyn (some 6) (.var 1) [(.ld (some 4) (.ixSl 4 (.var 0) (.var 5)))] [])
          (.cond (.var 6)
            (.seq
             (.set 2 (.var 5))
            .ret)
            .skip))))
       (.set 3 (.bin .add (.var 3) (.const (.int .i64 1)))))))))
  (.seq
   (.set 2 (.const (.int .i64 (-1))))
  .ret)))
abbrev v_vf_IndexFunc : List Nat := [0, 1, 4, 8, 7, 5, 16]
abbrev k_vf_IndexFunc : List (List Nat) := [[0, 1, 3, 4]]
abbrev r_vf_IndexFunc : List Ex := [(.var 2)]
theorem ok_vf_IndexFunc : compile Tryz.prog Tryz.f33 v_vf_IndexFunc k_vf_IndexFunc = some (c_vf_IndexFunc, r_vf_IndexFunc) := by kernel_rfl

/- slices.ContainsFunc[[]tipstaff/absreg.State,tipstaff/absreg.State] -/
def c_vfs_ContainsFunc : Cmd :=
  (.seq
   (.set 2 (.const (.bool false)))
  (.seq
   (.seq
    (.call (some 3) 89 [(.var 0), (.var 1)] [])
   (.set 2 (.bin .geq (.var 3) (.const (.int .i64 0)))))
  .ret))
abbrev v_vfs_ContainsFunc : List Nat := [0, 1, 4, 7]
abbrev k_vfs_ContainsFunc : List (List Nat) := []
abbrev r_vfs_ContainsFunc : List Ex := [(.var 2)]
theorem ok_vfs_ContainsFunc : compile Tryz.prog Tryz.f48 v_vfs_ContainsFunc k_vfs_ContainsFunc = some (c_vfs_ContainsFunc, r_vfs_ContainsFunc) := by kernel_rfl

/- slices.IndexFunc[[]tipstaff/absreg.State,tipstaff/absreg.State] -/
def c_vfs_IndexFunc : Cmd :=
  (.seq
   (.set 2 (.const (.int .i64 0)))
  (.seq
   (.seq
    (.seq
     (.set 4 (.len false (.var 0)))
    (.set 3 (.const (.int .i64 0))))
   (.block 0
     (.loop [0, 1, 3, 4]
       (.seq
        (.cond (.bin .lss (.var 3) (.var 4))
          .skip
          (.exit 0))
       (.seq
        (.block 1
          (.seq
           (.set 5 (.var 3))
          (.seq
           (.dyn (some 6) (.var 1) [(.ld (some 273) (.ixSl 273 (.var 0) (.var 5)))] [])
          (.cond (.var 6)
            (.seq
             (.set 2 (.var 5))
            .ret)
            .skip))))
       (.set 3 (.bin .add (.var 3) (.const (.int .i64 1)))))))))
  (.seq
   (.set 2 (.const (.int .i64 (-1))))
  .ret)))
abbrev v_vfs_IndexFunc : List Nat := [0, 1, 4, 8, 7, 5, 16]
abbrev k_vfs_IndexFunc : List (List Nat) := [[0, 1, 3, 4]]
abbrev r_vfs_IndexFunc : List Ex := [(.var 2)]
theorem ok_vfs_IndexFunc : compile Tryz.prog Tryz.f89 v_vfs_IndexFunc k_vfs_IndexFunc = some (c_vfs_IndexFunc, r_vfs_IndexFunc) := by kernel_rfl

/- tipstaff/tipstaffref18.End -/
def c_tipstaffref18_End : Cmd :=
  (.seq
   (.set 1 (.const (.slice none 0 0)))
  (.seq
   (.seq
    (.chk [(.upd 0 1 (.const (.agg #[(.int .u8 0), (.int .u8 0), (.int .u8 0), (.int .i16 0), (.int .i32 0)])) (.const (.int .u8 149))), (.upd 4 1 (.upd 0 1 (.const (.agg #[(.int .u8 0), (.int .u8 0), (.int .u8 0), (.int .i16 0), (.int .i32 0)])) (.const (.int .u8 183))) (.var 0))])
   (.seq
    (.row (some 2) 28 2 (.upd 5 5 (.upd 0 5 (.const (.agg #[(.int .u8 0), (.int .u8 0), (.int .u8 0), (.int .i16 0), (.int .i32 0), (.int .u8 0), (.int .u8 0), (.int .u8 0), (.int .i16 0), (.int .i32 0)])) (.upd 4 1 (.upd 0 1 (.const (.agg #[(.int .u8 0), (.int .u8 0), (.int .u8 0), (.int .i16 0), (.int .i32 0)])) (.const (.int .u8 183))) (.var 0))) (.upd 0 1 (.const (.agg #[(.int .u8 0), (.int .u8 0), (.int .u8 0), (.int .i16 0), (.int .i32 0)])) (.const (.int .u8 149)))) [])
   (.set 1 (.var 2))))
  .ret))
abbrev v_tipstaffref18_End : List Nat := [0, 2, 6]
abbrev k_tipstaffref18_End : List (List Nat) := []
abbrev r_tipstaffref18_End : List Ex := [(.var 1)]
theorem ok_tipstaffref18_End : compile Tryz.prog Tryz.f7 v_tipstaffref18_End k_tipstaffref18_End = some (c_tipstaffref18_End, r_tipstaffref18_End) := by kernel_rfl

/- tipstaff/tipstafflaw18.VerifySteps -/
def c_tipstafflaw18_VerifySteps : Cmd :=
  (.seq
   (.set 2 (.const (.bool false)))
  (.seq
   (.set 3 (.conv .i64 (.bin .rem (.conv .u64 (.var 0)) (.const (.int .u64 250)))))
  (.seq
   (.set 4 (.const (.slice none 0 0)))
  (.seq
   (.seq
    (.set 5 (.const (.int .i64 0)))
   (.block 0
     (.loop [1, 3, 4, 5]
       (.seq
        (.cond (.bin .lss (.var 5) (.var 3))
          .skip
          (.exit 0))
       (.seq
        (.block 1
          (.seq
           (.chk [(.upd 4 1 (.upd 1 1 (.upd 0 1 (.const (.agg #[(.int .u8 0), (.int .u8 0), (.int .u8 0), (.int .i16 0), (.int .i32 0)])) (.const (.int .u8 183))) (.conv .u8 (.bin .rem (.var 5) (.const (.int .i64 10))))) (.var 1)), (.var 4)])
          (.seq
           (.row (some 6) 28 1 (.upd 0 5 (.const (.agg #[(.int .u8 0), (.int .u8 0), (.int .u8 0), (.int .i16 0), (.int .i32 0)])) (.upd 4 1 (.upd 1 1 (.upd 0 1 (.const (.agg #[(.int .u8 0), (.int .u8 0), (.int .u8 0), (.int .i16 0), (.int .i32 0)])) (.const (.int .u8 183))) (.conv .u8 (.bin .rem (.var 5) (.const (.int .i64 10))))) (.var 1))) [])
          (.seq
           (.bi (some 7) .append [29, 29] 29 [(.var 4), (.var 6)] [])
          (.set 4 (.var 7))))))
       (.set 5 (.bin .add (.var 5) (.const (.int .i64 1)))))))))
  (.seq
   (.seq
    (.chk [(.var 4)])
   (.seq
    (.call (some 8) 7 [(.const (.int .i32 1))] [])
   (.seq
    (.bi (some 9) .append [29, 29] 29 [(.var 4), (.var 8)] [])
   (.set 4 (.var 9)))))
  (.seq
   (.seq
    (.call (some 10) 8 [(.var 4), (.const (.agg #[(.slice none 0 0), (.slice none 0 0), (.bool false)]))] [])
   (.seq
    (.chk [(.proj 1 (.var 10)), (.proj 0 (.var 10))])
   (.seq
    (.new (some 11) 32 (.const (.agg #[(.int .i64 0), (.int .i64 0)])) [])
   (.seq
    (.store 2 (.var 11) (.proj 0 (.var 10)) [])
   (.set 12 (.proj 1 (.var 10)))))))
  (.seq
   (.seq
    (.chk [(.upd 2 1 (.const (.agg #[(.slice none 0 0), (.slice none 0 0), (.bool false)])) (.const (.bool true)))])
   (.seq
    (.call (some 13) 8 [(.var 4), (.upd 2 1 (.const (.agg #[(.slice none 0 0), (.slice none 0 0), (.bool false)])) (.const (.bool true)))] [])
   (.seq
    (.chk [(.proj 1 (.var 13)), (.proj 0 (.var 13))])
   (.seq
    (.new (some 14) 32 (.const (.agg #[(.int .i64 0), (.int .i64 0)])) [])
   (.seq
    (.store 2 (.var 14) (.proj 0 (.var 13)) [])
   (.set 15 (.proj 1 (.var 13))))))))
  (.seq
   (.seq
    (.call (some 16) 9 [] [])
   (.set 2 (.pick (.pick (.pick (.pick (.var 16) (.bin .eql (.var 12) (.const (.int .i64 0))) (.const (.bool false))) (.bin .eql (.var 15) (.const (.int .i64 0))) (.const (.bool false))) (.bin .eql (.ld none (.offp 1 (.var 11))) (.bin .add (.var 3) (.const (.int .i64 2)))) (.const (.bool false))) (.bin .eql (.ld none (.offp 1 (.var 14))) (.bin .add (.var 3) (.const (.int .i64 2)))) (.const (.bool false)))))
  .ret))))))))
abbrev v_tipstafflaw18_VerifySteps : List Nat := [0, 1, 4, 5, 6, 7, 27, 28, 30, 31, 35, 8, 9, 41, 10, 11, 44]
abbrev k_tipstafflaw18_VerifySteps : List (List Nat) := [[1, 3, 4, 5]]
abbrev r_tipstafflaw18_VerifySteps : List Ex := [(.var 2)]
theorem ok_tipstafflaw18_VerifySteps : compile Tryz.prog Tryz.f5 v_tipstafflaw18_VerifySteps k_tipstafflaw18_VerifySteps = some (c_tipstafflaw18_VerifySteps, r_tipstafflaw18_VerifySteps) := by kernel_rfl
end Go.Proofs.YtkgpmjjleemdlaaGreat
