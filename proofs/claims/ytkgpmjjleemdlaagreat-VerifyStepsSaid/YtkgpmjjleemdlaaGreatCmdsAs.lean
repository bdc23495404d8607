/- Commands of functions, and that they are what the code comes to. -/
import Derived.Test.YtkgpmjjleemdlaaGreatCmdsVm
import Derived.Test.YtkgpmjjleemdlaaGreatRows
namespace Go.Proofs.YtkgpmjjleemdlaaGreat
open Go.Eng
/- tipstaff/shape.Check -/
def c_shape_Check : Cmd :=
  (.seq
   (.seq
    (.set 1 (.const (.int .i64 0)))
   (.set 2 (.const (.int .i64 0))))
  (.seq
   (.block 0
     (.seq
      (.set 3 (.bin .gtr (.len false (.var 0)) (.const (.int .i64 256))))
     (.cond (.var 3)
       (.seq
        (.seq
         (.set 1 (.const (.int .i64 0)))
        (.set 2 (.const (.int .i64 7))))
       .ret)
       (.seq
        (.set 4 (.bin .eql (.len false (.var 0)) (.const (.int .i64 0))))
       (.cond (.var 4)
         (.seq
          (.seq
           (.set 1 (.const (.int .i64 0)))
          (.set 2 (.const (.int .i64 22))))
         .ret)
         .skip)))))
  (.seq
   (.seq
    (.seq
     (.set 6 (.len false (.var 0)))
    (.set 5 (.const (.int .i64 0))))
   (.block 1
     (.loop [0, 5, 6]
       (.seq
        (.cond (.bin .lss (.var 5) (.var 6))
          .skip
          (.exit 1))
       (.seq
        (.block 2
          (.seq
           (.set 7 (.var 5))
          (.seq
           (.call (some 8) 43 [(.var 0), (.var 7)] [])
          (.cond (.un .not (.var 8))
            (.seq
             (.seq
              (.set 1 (.var 7))
             (.set 2 (.const (.int .i64 22))))
            .ret)
            .skip))))
       (.set 5 (.bin .add (.var 5) (.const (.int .i64 1)))))))))
  (.seq
   (.seq
    (.seq
     (.set 10 (.len false (.var 0)))
    (.set 9 (.const (.int .i64 0))))
   (.block 3
     (.loop [0, 9, 10]
       (.seq
        (.cond (.bin .lss (.var 9) (.var 10))
          .skip
          (.exit 3))
       (.seq
        (.block 4
          (.seq
           (.set 11 (.var 9))
          (.seq
           (.call (some 12) 44 [(.var 0), (.var 11)] [])
          (.cond (.un .not (.var 12))
            (.seq
             (.seq
              (.set 1 (.var 11))
             (.set 2 (.const (.int .i64 22))))
            .ret)
            .skip))))
       (.set 9 (.bin .add (.var 9) (.const (.int .i64 1)))))))))
  (.seq
   (.set 13 (.bin .sub (.len false (.var 0)) (.const (.int .i64 1))))
  (.seq
   (.seq
    (.seq
     (.call (some 14) 45 [(.ld (some 5) (.ixSl 5 (.var 0) (.var 13)))] [])
    (.set 15 (.var 14)))
   (.cond (.pick (.bin .neq (.var 15) (.const (.int .i64 5))) (.bin .neq (.var 15) (.const (.int .i64 3))) (.const (.bool false)))
     (.seq
      (.seq
       (.set 1 (.var 13))
      (.set 2 (.const (.int .i64 22))))
     .ret)
     .skip))
  (.seq
   (.seq
    (.set 1 (.const (.int .i64 0)))
   (.set 2 (.const (.int .i64 0))))
  .ret)))))))
abbrev v_shape_Check : List Nat := [0, 2, 3, 8, 12, 18, 17, 4, 23, 29, 28, 5, 34, 6, 45, 7]
abbrev k_shape_Check : List (List Nat) := [[0, 5, 6], [0, 9, 10]]
abbrev r_shape_Check : List Ex := [(.var 1), (.var 2)]
theorem ok_shape_Check : compile Tryz.prog Tryz.f29 v_shape_Check k_shape_Check = some (c_shape_Check, r_shape_Check) := by kernel_rfl

/- tipstaff/shape.one -/
def c_shape_one : Cmd :=
  (.seq
   (.set 2 (.const (.bool false)))
  (.seq
   (.seq
    (.set 4 (.ld (some 5) (.ixSl 5 (.var 0) (.var 1))))
   (.seq
    (.new (some 3) 28 (.const (.agg #[(.int .u8 0), (.int .u8 0), (.int .u8 0), (.int .i16 0), (.int .i32 0)])) [])
   (.store 5 (.var 3) (.var 4) [])))
  (.seq
   (.seq
    (.call (some 5) 24 [(.ld none (.offp 0 (.var 3)))] [])
   (.seq
    (.new (some 6) 82 (.const (.agg #[(.int .i64 0), (.int .i64 0), (.int .i64 0), (.bool false), (.bool false)])) [])
   (.store 5 (.var 6) (.var 5) [])))
  (.seq
   (.seq
    (.seq
     .draw
    (.seq
     (.set 9 (.bin .eql (.ld none (.offp 0 (.var 6))) (.const (.int .i64 0))))
    (.seq
     (.cond (.pick (.var 9) (.const (.bool false)) (.const (.bool true)))
       (.set 8 (.ld (some 5) (.var 3)))
       (.clr [8]))
    (.seq
     (.chk [(.pick (.var 9) (.const (.bool false)) (.ld (some 5) (.var 6)))])
    (.seq
     (.cond (.pick (.var 9) (.const (.bool false)) (.const (.bool true)))
       (.call (some 7) 82 [(.ld (some 5) (.var 6))] [(.ld (some 5) (.var 3))])
       (.clr [7]))
    (.seq
     (.cond (.pick (.var 9) (.const (.bool false)) (.const (.bool true)))
       (.call (some 10) 81 [(.var 8), (.var 7)] [])
       (.clr [10]))
    (.seq
     (.set 12 (.pick (.var 9) (.const (.bool true)) (.un .not (.var 10))))
    (.seq
     (.chk [(.pick (.var 12) (.const (.bool false)) (.ld none (.offp 0 (.var 6))))])
    (.cond (.pick (.var 12) (.const (.bool false)) (.const (.bool true)))
      (.call (some 11) 83 [(.ld none (.offp 0 (.var 6)))] [])
      (.clr [11]))))))))))
   (.cond (.pick (.var 12) (.const (.bool true)) (.pick (.var 11) (.bin .eql (.ld none (.offp 1 (.var 3))) (.const (.int .u8 10))) (.const (.bool false))))
     (.seq
      (.set 2 (.const (.bool false)))
     .ret)
     .skip))
  (.seq
   (.seq
    (.set 13 (.ld none (.offp 0 (.var 6))))
   (.block 0
     (.seq
      (.set 14 (.bin .eql (.var 13) (.const (.int .i64 1))))
     (.cond (.var 14)
       (.seq
        (.seq
         (.call (some 15) 84 [(.ld (some 5) (.var 6)), (.ld none (.offp 4 (.var 3)))] [])
        (.set 2 (.var 15)))
       .ret)
       (.seq
        (.set 16 (.bin .eql (.var 13) (.const (.int .i64 4))))
       (.cond (.var 16)
         (.seq
          (.seq
           (.call (some 17) 85 [(.ld none (.offp 4 (.var 3)))] [])
          (.seq
           (.chk [(.proj 1 (.var 17))])
          (.seq
           (.set 18 (.proj 0 (.var 17)))
          (.set 19 (.proj 1 (.var 17))))))
         (.seq
          (.set 2 (.var 19))
         .ret))
         (.seq
          (.set 20 (.bin .eql (.var 13) (.const (.int .i64 8))))
         (.cond (.var 20)
           (.seq
            (.seq
             (.call (some 21) 86 [(.ld none (.offp 4 (.var 3)))] [])
            (.set 2 (.var 21)))
           .ret)
           (.seq
            (.set 22 (.bin .eql (.var 13) (.const (.int .i64 9))))
           (.cond (.var 22)
             (.seq
              (.seq
               (.call (some 23) 87 [(.var 0), (.var 1)] [])
              (.set 2 (.var 23)))
             .ret)
             (.seq
              (.set 24 (.bin .eql (.var 13) (.const (.int .i64 10))))
             (.cond (.var 24)
               (.seq
                (.seq
                 (.chk [(.pick (.bin .gtr (.var 1) (.const (.int .i64 0))) (.ld (some 5) (.ixSl 5 (.var 0) (.bin .sub (.var 1) (.const (.int .i64 1))))) (.const (.bool false)))])
                (.seq
                 (.cond (.pick (.bin .gtr (.var 1) (.const (.int .i64 0))) (.const (.bool true)) (.const (.bool false)))
                   (.call (some 25) 45 [(.ld (some 5) (.ixSl 5 (.var 0) (.bin .sub (.var 1) (.const (.int .i64 1)))))] [])
                   (.clr [25]))
                (.set 2 (.pick (.bin .gtr (.var 1) (.const (.int .i64 0))) (.bin .eql (.var 25) (.const (.int .i64 9))) (.const (.bool false))))))
               .ret)
               .skip))))))))))))
  (.seq
   (.set 2 (.const (.bool true)))
  .ret))))))
abbrev v_shape_one : List Nat := [0, 1, 4, 5, 12, 15, 6, 22, 20, 19, 23, 29, 26, 37, 38, 43, 44, 49, 7, 8, 53, 57, 58, 62, 63, 73]
abbrev k_shape_one : List (List Nat) := []
abbrev r_shape_one : List Ex := [(.var 2)]
theorem ok_shape_one : compile Tryz.prog Tryz.f43 v_shape_one k_shape_one = some (c_shape_one, r_shape_one) := by kernel_rfl

/- tipstaff/shape.lands -/
def c_shape_lands : Cmd :=
  (.seq
   (.set 2 (.const (.bool false)))
  (.seq
   (.seq
    (.seq
     (.call (some 3) 45 [(.ld (some 5) (.ixSl 5 (.var 0) (.var 1)))] [])
    (.set 4 (.var 3)))
   (.cond (.pick (.bin .neq (.var 4) (.const (.int .i64 2))) (.bin .neq (.var 4) (.const (.int .i64 3))) (.const (.bool false)))
     (.seq
      (.set 2 (.const (.bool true)))
     .ret)
     .skip))
  (.seq
   (.seq
    (.call (some 5) 54 [(.var 1), (.ld (some 5) (.ixSl 5 (.var 0) (.var 1)))] [])
   (.set 6 (.var 5)))
  (.seq
   (.seq
    (.chk [(.pick (.pick (.bin .geq (.var 6) (.const (.int .i64 0))) (.bin .lss (.var 6) (.len false (.var 0))) (.const (.bool false))) (.ld (some 5) (.ixSl 5 (.var 0) (.var 6))) (.const (.bool false)))])
   (.seq
    (.cond (.pick (.pick (.bin .geq (.var 6) (.const (.int .i64 0))) (.bin .lss (.var 6) (.len false (.var 0))) (.const (.bool false))) (.const (.bool true)) (.const (.bool false)))
      (.call (some 7) 45 [(.ld (some 5) (.ixSl 5 (.var 0) (.var 6)))] [])
      (.clr [7]))
   (.set 2 (.pick (.pick (.bin .geq (.var 6) (.const (.int .i64 0))) (.bin .lss (.var 6) (.len false (.var 0))) (.const (.bool false))) (.bin .neq (.var 7) (.const (.int .i64 10))) (.const (.bool false))))))
  .ret))))
abbrev v_shape_lands : List Nat := [0, 1, 4, 11, 5, 23, 6, 37]
abbrev k_shape_lands : List (List Nat) := []
abbrev r_shape_lands : List Ex := [(.var 2)]
theorem ok_shape_lands : compile Tryz.prog Tryz.f44 v_shape_lands k_shape_lands = some (c_shape_lands, r_shape_lands) := by kernel_rfl

/- tipstaff/shape.kind -/
def c_shape_kind : Cmd :=
  (.seq
   (.seq
    (.new (some 2) 28 (.var 0) [])
   (.set 1 (.const (.int .i64 0))))
  (.seq
   (.seq
    (.call (some 3) 24 [(.ld none (.offp 0 (.var 2)))] [])
   (.set 1 (.part none 0 (.var 3))))
  .ret))
abbrev v_shape_kind : List Nat := [0, 2, 1, 5]
abbrev k_shape_kind : List (List Nat) := []
abbrev r_shape_kind : List Ex := [(.var 1)]
theorem ok_shape_kind : compile Tryz.prog Tryz.f45 v_shape_kind k_shape_kind = some (c_shape_kind, r_shape_kind) := by kernel_rfl

/- tipstaff/shape.plain -/
def c_shape_plain : Cmd :=
  (.seq
   (.seq
    (.new (some 3) 28 (.var 0) [])
   (.seq
    (.new (some 4) 135 (.var 1) [])
   (.set 2 (.const (.bool false)))))
  (.seq
   (.block 0
     (.seq
      (.set 5 (.pick (.bin .geq (.ld none (.offp 1 (.var 3))) (.const (.int .u8 11))) (.const (.bool true)) (.bin .geq (.ld none (.offp 2 (.var 3))) (.const (.int .u8 11)))))
     (.cond (.var 5)
       .skip
       (.seq
        (.set 6 (.pick (.pick (.un .not (.ld none (.offp 0 (.var 4)))) (.bin .neq (.ld none (.offp 1 (.var 3))) (.const (.int .u8 0))) (.const (.bool false))) (.const (.bool true)) (.pick (.un .not (.ld none (.offp 1 (.var 4)))) (.bin .neq (.ld none (.offp 2 (.var 3))) (.const (.int .u8 0))) (.const (.bool false)))))
       (.cond (.var 6)
         .skip
         (.seq
          (.set 7 (.pick (.pick (.un .not (.ld none (.offp 2 (.var 4)))) (.bin .neq (.ld none (.offp 3 (.var 3))) (.const (.int .i16 0))) (.const (.bool false))) (.const (.bool true)) (.pick (.un .not (.ld none (.offp 3 (.var 4)))) (.bin .neq (.ld none (.offp 4 (.var 3))) (.const (.int .i32 0))) (.const (.bool false)))))
         (.cond (.var 7)
           .skip
           (.seq
            (.set 2 (.const (.bool true)))
           .ret))))))))
  (.seq
   (.set 2 (.const (.bool false)))
  .ret)))
abbrev v_shape_plain : List Nat := [0, 1, 4, 2, 3, 5, 14, 33]
abbrev k_shape_plain : List (List Nat) := []
abbrev r_shape_plain : List Ex := [(.var 2)]
theorem ok_shape_plain : compile Tryz.prog Tryz.f81 v_shape_plain k_shape_plain = some (c_shape_plain, r_shape_plain) := by kernel_rfl

/- tipstaff/shape.named -/
def c_shape_named : Cmd :=
  (.seq
   (.seq
    (.new (some 2) 82 (.var 0) [])
   (.new (some 1) 135 (.const (.agg (Array.replicate 4 (.bool false)))) []))
  (.seq
   (.seq
    (.set 3 (.ld none (.offp 0 (.var 2))))
   (.block 0
     (.seq
      (.set 4 (.bin .eql (.var 3) (.const (.int .i64 1))))
     (.cond (.var 4)
       (.seq
        (.seq
         (.chk [(.upd 3 1 (.upd 2 1 (.upd 1 1 (.upd 0 1 (.const (.agg (Array.replicate 4 (.bool false)))) (.const (.bool true))) (.ld none (.offp 4 (.var 2)))) (.const (.bool false))) (.pick (.un .not (.ld none (.offp 4 (.var 2)))) (.bin .neq (.ld none (.offp 1 (.var 2))) (.const (.int .i64 8))) (.const (.bool false))))])
        (.store 4 (.var 1) (.upd 3 1 (.upd 2 1 (.upd 1 1 (.upd 0 1 (.const (.agg (Array.replicate 4 (.bool false)))) (.const (.bool true))) (.ld none (.offp 4 (.var 2)))) (.const (.bool false))) (.pick (.un .not (.ld none (.offp 4 (.var 2)))) (.bin .neq (.ld none (.offp 1 (.var 2))) (.const (.int .i64 8))) (.const (.bool false)))) []))
       .ret)
       (.seq
        (.seq
         (.set 5 (.bin .eql (.var 3) (.const (.int .i64 2))))
        (.cond (.var 5)
          .skip
          (.set 5 (.bin .eql (.var 3) (.const (.int .i64 7))))))
       (.cond (.var 5)
         (.seq
          (.seq
           (.chk [(.upd 3 1 (.upd 2 1 (.upd 1 1 (.upd 0 1 (.const (.agg (Array.replicate 4 (.bool false)))) (.const (.bool true))) (.ld none (.offp 4 (.var 2)))) (.const (.bool true))) (.un .not (.ld none (.offp 4 (.var 2)))))])
          (.store 4 (.var 1) (.upd 3 1 (.upd 2 1 (.upd 1 1 (.upd 0 1 (.const (.agg (Array.replicate 4 (.bool false)))) (.const (.bool true))) (.ld none (.offp 4 (.var 2)))) (.const (.bool true))) (.un .not (.ld none (.offp 4 (.var 2))))) []))
         .ret)
         (.seq
          (.set 6 (.bin .eql (.var 3) (.const (.int .i64 3))))
         (.cond (.var 6)
           (.seq
            (.seq
             (.chk [(.upd 2 1 (.const (.agg (Array.replicate 4 (.bool false)))) (.const (.bool true)))])
            (.store 4 (.var 1) (.upd 2 1 (.const (.agg (Array.replicate 4 (.bool false)))) (.const (.bool true))) []))
           .ret)
           (.seq
            (.seq
             (.set 7 (.bin .eql (.var 3) (.const (.int .i64 4))))
            (.cond (.var 7)
              .skip
              (.set 7 (.bin .eql (.var 3) (.const (.int .i64 10))))))
           (.cond (.var 7)
             (.seq
              (.seq
               (.chk [(.upd 3 1 (.const (.agg (Array.replicate 4 (.bool false)))) (.const (.bool true)))])
              (.store 4 (.var 1) (.upd 3 1 (.const (.agg (Array.replicate 4 (.bool false)))) (.const (.bool true))) []))
             .ret)
             (.seq
              (.set 8 (.bin .eql (.var 3) (.const (.int .i64 6))))
             (.cond (.var 8)
               (.seq
                (.seq
                 (.chk [(.upd 3 1 (.upd 2 1 (.upd 1 1 (.upd 0 1 (.const (.agg (Array.replicate 4 (.bool false)))) (.const (.bool true))) (.const (.bool true))) (.const (.bool true))) (.const (.bool false)))])
                (.store 4 (.var 1) (.upd 3 1 (.upd 2 1 (.upd 1 1 (.upd 0 1 (.const (.agg (Array.replicate 4 (.bool false)))) (.const (.bool true))) (.const (.bool true))) (.const (.bool true))) (.const (.bool false))) []))
               .ret)
               (.seq
                (.set 9 (.bin .eql (.var 3) (.const (.int .i64 8))))
               (.cond (.var 9)
                 (.seq
                  (.seq
                   (.chk [(.upd 3 1 (.upd 2 1 (.upd 1 1 (.upd 0 1 (.const (.agg (Array.replicate 4 (.bool false)))) (.const (.bool true))) (.const (.bool true))) (.const (.bool true))) (.const (.bool true)))])
                  (.store 4 (.var 1) (.upd 3 1 (.upd 2 1 (.upd 1 1 (.upd 0 1 (.const (.agg (Array.replicate 4 (.bool false)))) (.const (.bool true))) (.const (.bool true))) (.const (.bool true))) (.const (.bool true))) []))
                 .ret)
                 (.seq
                  (.set 10 (.bin .eql (.var 3) (.const (.int .i64 9))))
                 (.cond (.var 10)
                   (.seq
                    (.seq
                     (.chk [(.upd 3 1 (.upd 2 1 (.upd 1 1 (.upd 0 1 (.const (.agg (Array.replicate 4 (.bool false)))) (.const (.bool true))) (.const (.bool true))) (.const (.bool false))) (.const (.bool true)))])
                    (.store 4 (.var 1) (.upd 3 1 (.upd 2 1 (.upd 1 1 (.upd 0 1 (.const (.agg (Array.replicate 4 (.bool false)))) (.const (.bool true))) (.const (.bool true))) (.const (.bool false))) (.const (.bool true))) []))
                   .ret)
                   .skip))))))))))))))))
  (.seq
   (.store 4 (.var 1) (.const (.agg (Array.replicate 4 (.bool false)))) [])
  .ret)))
abbrev v_shape_named : List Nat := [0, 2, 1, 4, 5, 18, 27, 30, 34, 37, 40]
abbrev k_shape_named : List (List Nat) := []
abbrev r_shape_named : List Ex := [(.ld (some 4) (.var 1))]
theorem ok_shape_named : compile Tryz.prog Tryz.f82 v_shape_named k_shape_named = some (c_shape_named, r_shape_named) := by kernel_rfl

/- tipstaff/shape.writes -/
def c_shape_writes : Cmd :=
  (.seq
   (.set 1 (.const (.bool false)))
  (.seq
   (.set 1 (.pick (.pick (.bin .eql (.var 0) (.const (.int .i64 1))) (.const (.bool true)) (.bin .eql (.var 0) (.const (.int .i64 6)))) (.const (.bool true)) (.bin .eql (.var 0) (.const (.int .i64 9)))))
  .ret))
abbrev v_shape_writes : List Nat := [0, 2]
abbrev k_shape_writes : List (List Nat) := []
abbrev r_shape_writes : List Ex := [(.var 1)]
theorem ok_shape_writes : compile Tryz.prog Tryz.f83 v_shape_writes k_shape_writes = some (c_shape_writes, r_shape_writes) := by kernel_rfl

/- tipstaff/shape.constant -/
def c_shape_constant : Cmd :=
  (.seq
   (.seq
    (.new (some 3) 82 (.var 0) [])
   (.set 2 (.const (.bool false))))
  (.seq
   (.cond (.ld none (.offp 4 (.var 3)))
     (.seq
      (.set 2 (.const (.bool true)))
     .ret)
     .skip)
  (.seq
   (.seq
    (.set 4 (.ld none (.offp 1 (.var 3))))
   (.block 0
     (.seq
      (.seq
       (.set 5 (.bin .eql (.var 4) (.const (.int .i64 3))))
      (.cond (.var 5)
        .skip
        (.set 5 (.bin .eql (.var 4) (.const (.int .i64 9))))))
     (.cond (.var 5)
       (.seq
        (.set 2 (.bin .neq (.var 1) (.const (.int .i32 0))))
       .ret)
       (.seq
        (.seq
         (.set 6 (.bin .eql (.var 4) (.const (.int .i64 6))))
        (.cond (.var 6)
          .skip
          (.seq
           (.set 6 (.bin .eql (.var 4) (.const (.int .i64 7))))
          (.cond (.var 6)
            .skip
            (.set 6 (.bin .eql (.var 4) (.const (.int .i64 12))))))))
       (.cond (.var 6)
         (.seq
          (.set 7 (.const (.int .i32 31)))
         (.seq
          (.cond (.ld none (.offp 3 (.var 3)))
            (.set 7 (.const (.int .i32 63)))
            .skip)
         (.seq
          (.set 2 (.pick (.bin .geq (.var 1) (.const (.int .i32 0))) (.bin .leq (.var 1) (.var 7)) (.const (.bool false))))
         .ret)))
         .skip))))))
  (.seq
   (.set 2 (.const (.bool true)))
  .ret))))
abbrev v_shape_constant : List Nat := [0, 1, 4, 2, 9, 10, 15, 5]
abbrev k_shape_constant : List (List Nat) := []
abbrev r_shape_constant : List Ex := [(.var 2)]
theorem ok_shape_constant : compile Tryz.prog Tryz.f84 v_shape_constant k_shape_constant = some (c_shape_constant, r_shape_constant) := by kernel_rfl

/- tipstaff/shape.Args -/
def c_shape_Args : Cmd :=
  (.seq
   (.seq
    (.set 1 (.const (.int .i64 0)))
   (.set 2 (.const (.bool false))))
  (.seq
   (.seq
    (.set 3 (.var 0))
   (.block 0
     (.seq
      (.seq
       (.set 4 (.bin .eql (.var 3) (.const (.int .i32 1))))
      (.cond (.var 4)
        .skip
        (.seq
         (.set 4 (.bin .eql (.var 3) (.const (.int .i32 3))))
        (.cond (.var 4)
          .skip
          (.seq
           (.set 4 (.bin .eql (.var 3) (.const (.int .i32 88))))
          (.cond (.var 4)
            .skip
            (.set 4 (.bin .eql (.var 3) (.const (.int .i32 89))))))))))
     (.cond (.var 4)
       (.seq
        (.seq
         (.set 1 (.const (.int .i64 2)))
        (.set 2 (.const (.bool true))))
       .ret)
       (.seq
        (.set 5 (.bin .eql (.var 3) (.const (.int .i32 2))))
       (.cond (.var 5)
         (.seq
          (.seq
           (.set 1 (.const (.int .i64 4)))
          (.set 2 (.const (.bool true))))
         .ret)
         (.seq
          (.seq
           (.set 6 (.bin .eql (.var 3) (.const (.int .i32 5))))
          (.cond (.var 6)
            .skip
            (.set 6 (.bin .eql (.var 3) (.const (.int .i32 7))))))
         (.cond (.var 6)
           (.seq
            (.seq
             (.set 1 (.const (.int .i64 0)))
            (.set 2 (.const (.bool true))))
           .ret)
           (.seq
            (.set 7 (.bin .eql (.var 3) (.const (.int .i32 87))))
           (.cond (.var 7)
             (.seq
              (.seq
               (.set 1 (.const (.int .i64 3)))
              (.set 2 (.const (.bool true))))
             .ret)
             .skip))))))))))
  (.seq
   (.seq
    (.set 1 (.const (.int .i64 0)))
   (.set 2 (.const (.bool false))))
  .ret)))
abbrev v_shape_Args : List Nat := [0, 2, 3, 4, 5, 10, 12, 15]
abbrev k_shape_Args : List (List Nat) := []
abbrev r_shape_Args : List Ex := [(.var 1), (.var 2)]
theorem ok_shape_Args : compile Tryz.prog Tryz.f85 v_shape_Args k_shape_Args = some (c_shape_Args, r_shape_Args) := by kernel_rfl

/- tipstaff/shape.atomic -/
def c_shape_atomic : Cmd :=
  (.seq
   (.set 1 (.const (.bool false)))
  (.seq
   (.set 1 (.pick (.pick (.pick (.bin .eql (.var 0) (.const (.int .i32 0))) (.const (.bool true)) (.bin .eql (.var 0) (.const (.int .i32 64)))) (.const (.bool true)) (.bin .eql (.var 0) (.const (.int .i32 80)))) (.const (.bool true)) (.bin .eql (.var 0) (.const (.int .i32 160)))))
  .ret))
abbrev v_shape_atomic : List Nat := [0, 2]
abbrev k_shape_atomic : List (List Nat) := []
abbrev r_shape_atomic : List Ex := [(.var 1)]
theorem ok_shape_atomic : compile Tryz.prog Tryz.f86 v_shape_atomic k_shape_atomic = some (c_shape_atomic, r_shape_atomic) := by kernel_rfl

/- tipstaff/shape.wide -/
def c_shape_wide : Cmd :=
  (.seq
   (.set 2 (.const (.bool false)))
  (.seq
   (.seq
    (.set 4 (.ld (some 5) (.ixSl 5 (.var 0) (.var 1))))
   (.seq
    (.new (some 3) 28 (.const (.agg #[(.int .u8 0), (.int .u8 0), (.int .u8 0), (.int .i16 0), (.int .i32 0)])) [])
   (.store 5 (.var 3) (.var 4) [])))
  (.seq
   (.seq
    (.seq
     (.chk [(.pick (.bin .geq (.bin .add (.var 1) (.const (.int .i64 1))) (.len false (.var 0))) (.const (.bool false)) (.ld (some 5) (.ixSl 5 (.var 0) (.bin .add (.var 1) (.const (.int .i64 1))))))])
    (.cond (.pick (.bin .geq (.bin .add (.var 1) (.const (.int .i64 1))) (.len false (.var 0))) (.const (.bool false)) (.const (.bool true)))
      (.call (some 5) 45 [(.ld (some 5) (.ixSl 5 (.var 0) (.bin .add (.var 1) (.const (.int .i64 1)))))] [])
      (.clr [5])))
   (.cond (.pick (.pick (.bin .geq (.bin .add (.var 1) (.const (.int .i64 1))) (.len false (.var 0))) (.const (.bool true)) (.bin .neq (.var 5) (.const (.int .i64 10)))) (.const (.bool true)) (.bin .gtr (.ld none (.offp 2 (.var 3))) (.const (.int .u8 1))))
     (.seq
      (.set 2 (.const (.bool false)))
     .ret)
     .skip))
  (.seq
   (.set 2 (.pick (.bin .eql (.ld none (.offp 2 (.var 3))) (.const (.int .u8 0))) (.const (.bool true)) (.pick (.pick (.bin .geq (.ld none (.offp 4 (.var 3))) (.const (.int .i32 0))) (.bin .lss (.ld none (.offp 4 (.var 3))) (.const (.int .i32 4))) (.const (.bool false))) (.bin .eql (.ld none (.offp 4 (.ixSl 5 (.var 0) (.bin .add (.var 1) (.const (.int .i64 1)))))) (.const (.int .i32 0))) (.const (.bool false)))))
  .ret))))
abbrev v_shape_wide : List Nat := [0, 1, 4, 5, 9, 21]
abbrev k_shape_wide : List (List Nat) := []
abbrev r_shape_wide : List Ex := [(.var 2)]
theorem ok_shape_wide : compile Tryz.prog Tryz.f87 v_shape_wide k_shape_wide = some (c_shape_wide, r_shape_wide) := by kernel_rfl

end Go.Proofs.YtkgpmjjleemdlaaGreat
