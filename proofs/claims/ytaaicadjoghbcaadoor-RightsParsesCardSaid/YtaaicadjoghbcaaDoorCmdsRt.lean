/- Commands of functions, and that they are what the code comes to. -/
import Derived.Test.YtaaicadjoghbcaaDoorEngK
import Derived.Test.YtaaicadjoghbcaaDoorRows
namespace Go.Proofs.YtaaicadjoghbcaaDoor
open Go.Eng
abbrev v_tipstafflaw11_RightsWithin : List Nat := [0, 1, 2, 6, 3, 4, 5, 12, 13, 14, 15, 16, 7, 8, 9, 11, 19, 10, 20, 25, 26, 27, 28, 33, 34, 35, 31, 36, 42, 39, 48, 45, 54, 51, 59, 63, 68, 73, 74, 75, 76, 80]
abbrev k_tipstafflaw11_RightsWithin : List (List Nat) := []
abbrev r_tipstafflaw11_RightsWithin : List Ex := [(.var 3)]
/- tipstaff/tipstafflaw11.RightsBits -/
def c_tipstafflaw11_RightsBits : Cmd :=
  (.seq
   (.set 1 (.const (.bool false)))
  (.seq
   (.seq
    (.call (some 2) 18 [(.var 0)] [])
   (.seq
    (.chk [(.proj 1 (.var 2))])
   (.seq
    (.set 3 (.proj 0 (.var 2)))
   (.set 4 (.proj 1 (.var 2))))))
  (.seq
   (.seq
    (.row (some 5) 21 8 (.upd 7 1 (.upd 6 1 (.upd 5 1 (.upd 4 1 (.upd 3 1 (.upd 2 1 (.upd 1 1 (.upd 0 1 (.const (.agg (Array.replicate 8 (.int .i32 0)))) (.const (.int .i32 1))) (.const (.int .i32 2))) (.const (.int .i32 3))) (.const (.int .i32 5))) (.const (.int .i32 7))) (.const (.int .i32 87))) (.const (.int .i32 88))) (.const (.int .i32 89))) [])
   (.set 6 (.var 5)))
  (.seq
   (.seq
    (.set 7 (.const (.int .i64 0)))
   (.block 0
     (.loop [0, 3, 4, 6, 7]
       (.seq
        (.cond (.bin .lss (.var 7) (.const (.int .i64 8)))
          .skip
          (.exit 0))
       (.seq
        (.block 1
          (.cond (.bin .eql (.ld none (.ixSl 1 (.var 6) (.var 7))) (.var 0))
            (.seq
             (.seq
              (.call (some 8) 8 [] [])
             (.set 1 (.pick (.pick (.var 8) (.var 4) (.const (.bool false))) (.bin .eql (.var 3) (.var 7)) (.const (.bool false)))))
            .ret)
            .skip))
       (.set 7 (.bin .add (.var 7) (.const (.int .i64 1)))))))))
  (.seq
   (.seq
    (.call (some 9) 8 [] [])
   (.set 1 (.pick (.pick (.var 9) (.un .not (.var 4)) (.const (.bool false))) (.bin .eql (.var 3) (.const (.int .i64 0))) (.const (.bool false)))))
  .ret)))))
abbrev v_tipstafflaw11_RightsBits : List Nat := [0, 2, 9, 3, 4, 12, 5, 6, 23, 32]
abbrev k_tipstafflaw11_RightsBits : List (List Nat) := [[0, 3, 4, 6, 7]]
abbrev r_tipstafflaw11_RightsBits : List Ex := [(.var 1)]
/- tipstaff/tipstafflaw11.RightsLess -/
def c_tipstafflaw11_RightsLess : Cmd :=
  (.seq
   (.seq
    (.new (some 3) 24 (.var 0) [])
   (.set 2 (.const (.bool false))))
  (.seq
   (.seq
    (.set 5 (.ld (some 6) (.var 3)))
   (.seq
    (.new (some 4) 24 (.const (.agg #[(.int .u16 0), (.int .u16 0), (.int .u16 0), (.int .u16 0), (.bool false), (.bool false)])) [])
   (.store 6 (.var 4) (.var 5) [])))
  (.seq
   (.set 6 (.conv .i64 (.bin .rem (.conv .u64 (.var 1)) (.const (.int .u64 66)))))
  (.seq
   (.block 0
     (.seq
      (.set 7 (.bin .lss (.var 6) (.const (.int .i64 16))))
     (.cond (.var 7)
       (.seq
        .draw
       (.store 1 (.offp 0 (.var 4)) (.bin .andNot (.ld none (.offp 0 (.var 4))) (.bin .shl (.const (.int .u16 1)) (.var 6))) []))
       (.seq
        (.set 8 (.bin .lss (.var 6) (.const (.int .i64 32))))
       (.cond (.var 8)
         (.seq
          .draw
         (.store 1 (.offp 1 (.var 4)) (.bin .andNot (.ld none (.offp 1 (.var 4))) (.bin .shl (.const (.int .u16 1)) (.bin .sub (.var 6) (.const (.int .i64 16))))) []))
         (.seq
          (.set 9 (.bin .lss (.var 6) (.const (.int .i64 48))))
         (.cond (.var 9)
           (.seq
            .draw
           (.store 1 (.offp 2 (.var 4)) (.bin .andNot (.ld none (.offp 2 (.var 4))) (.bin .shl (.const (.int .u16 1)) (.bin .sub (.var 6) (.const (.int .i64 32))))) []))
           (.seq
            (.set 10 (.bin .lss (.var 6) (.const (.int .i64 64))))
           (.cond (.var 10)
             (.seq
              .draw
             (.store 1 (.offp 3 (.var 4)) (.bin .andNot (.ld none (.offp 3 (.var 4))) (.bin .shl (.const (.int .u16 1)) (.bin .sub (.var 6) (.const (.int .i64 48))))) []))
             (.seq
              (.set 11 (.bin .eql (.var 6) (.const (.int .i64 64))))
             (.cond (.var 11)
               (.store 1 (.offp 4 (.var 4)) (.const (.bool false)) [])
               (.store 1 (.offp 5 (.var 4)) (.const (.bool true)) []))))))))))))
  (.seq
   (.seq
    .draw
   (.seq
    (.call (some 12) 8 [] [])
   (.seq
    (.chk [(.pick (.var 12) (.ld (some 6) (.var 4)) (.const (.bool false)))])
   (.seq
    (.cond (.pick (.var 12) (.const (.bool true)) (.const (.bool false)))
      (.set 14 (.ld (some 6) (.var 3)))
      (.clr [14]))
   (.seq
    (.cond (.pick (.var 12) (.const (.bool true)) (.const (.bool false)))
      (.call (some 13) 6 [(.ld (some 6) (.var 4))] [(.ld (some 6) (.var 3))])
      (.clr [13]))
   (.seq
    (.cond (.pick (.var 12) (.const (.bool true)) (.const (.bool false)))
      (.call (some 15) 6 [(.var 14)] [])
      (.clr [15]))
   (.seq
    (.cond (.pick (.var 12) (.const (.bool true)) (.const (.bool false)))
      (.call (some 16) 20 [(.var 13), (.var 15)] [])
      (.clr [16]))
   (.seq
    (.chk [(.pick (.pick (.var 12) (.var 16) (.const (.bool false))) (.ld (some 6) (.var 3)) (.const (.bool false)))])
   (.seq
    (.cond (.pick (.pick (.var 12) (.var 16) (.const (.bool false))) (.const (.bool true)) (.const (.bool false)))
      (.set 18 (.ld (some 6) (.var 4)))
      (.clr [18]))
   (.seq
    (.cond (.pick (.pick (.var 12) (.var 16) (.const (.bool false))) (.const (.bool true)) (.const (.bool false)))
      (.set 29 (.ld (some 6) (.var 3)))
      (.clr [29]))
   (.seq
    (.cond (.pick (.pick (.var 12) (.var 16) (.const (.bool false))) (.const (.bool true)) (.const (.bool false)))
      (.set 30 (.ld (some 6) (.var 4)))
      (.clr [30]))
   (.seq
    (.cond (.pick (.pick (.var 12) (.var 16) (.const (.bool false))) (.const (.bool true)) (.const (.bool false)))
      (.set 21 (.eqx false (.cons 0 none .int (.cons 1 none .int (.cons 2 none .int (.cons 3 none .int (.cons 4 none .bool (.cons 5 none .bool .nil)))))) (.var 29) (.var 30)))
      (.clr [21]))
   (.seq
    (.cond (.pick (.pick (.var 12) (.var 16) (.const (.bool false))) (.const (.bool true)) (.const (.bool false)))
      (.call (some 17) 6 [(.ld (some 6) (.var 3))] [(.eqx false (.cons 0 none .int (.cons 1 none .int (.cons 2 none .int (.cons 3 none .int (.cons 4 none .bool (.cons 5 none .bool .nil)))))) (.var 29) (.var 30)), (.ld (some 6) (.var 4)), (.ld (some 6) (.var 3)), (.ld (some 6) (.var 4))])
      (.clr [17]))
   (.seq
    (.cond (.pick (.pick (.var 12) (.var 16) (.const (.bool false))) (.const (.bool true)) (.const (.bool false)))
      (.call (some 19) 6 [(.var 18)] [(.eqx false (.cons 0 none .int (.cons 1 none .int (.cons 2 none .int (.cons 3 none .int (.cons 4 none .bool (.cons 5 none .bool .nil)))))) (.var 29) (.var 30)), (.ld (some 6) (.var 4)), (.ld (some 6) (.var 3))])
      (.clr [19]))
   (.seq
    (.cond (.pick (.pick (.var 12) (.var 16) (.const (.bool false))) (.const (.bool true)) (.const (.bool false)))
      (.call (some 20) 20 [(.var 17), (.var 19)] [(.eqx false (.cons 0 none .int (.cons 1 none .int (.cons 2 none .int (.cons 3 none .int (.cons 4 none .bool (.cons 5 none .bool .nil)))))) (.var 29) (.var 30)), (.ld (some 6) (.var 4)), (.ld (some 6) (.var 3))])
      (.clr [20]))
   (.seq
    (.set 24 (.pick (.pick (.var 12) (.var 16) (.const (.bool false))) (.eqx false .bool (.var 20) (.var 21)) (.const (.bool false))))
   (.seq
    (.chk [(.pick (.var 24) (.ld (some 6) (.var 3)) (.const (.bool false)))])
   (.seq
    (.cond (.pick (.var 24) (.const (.bool true)) (.const (.bool false)))
      (.set 23 (.ld (some 6) (.var 4)))
      (.clr [23]))
   (.seq
    (.cond (.pick (.var 24) (.const (.bool true)) (.const (.bool false)))
      (.set 27 (.ld (some 6) (.var 4)))
      (.clr [27]))
   (.seq
    (.cond (.pick (.var 24) (.const (.bool true)) (.const (.bool false)))
      (.call (some 22) 6 [(.ld (some 6) (.var 3))] [(.ld (some 6) (.var 4)), (.ld (some 6) (.var 4))])
      (.clr [22]))
   (.seq
    (.cond (.pick (.var 24) (.const (.bool true)) (.const (.bool false)))
      (.call (some 25) 6 [(.var 23)] [(.ld (some 6) (.var 4))])
      (.clr [25]))
   (.seq
    (.cond (.pick (.var 24) (.const (.bool true)) (.const (.bool false)))
      (.call (some 26) 31 [(.var 22), (.var 25)] [(.ld (some 6) (.var 4))])
      (.clr [26]))
   (.seq
    (.cond (.pick (.var 24) (.const (.bool true)) (.const (.bool false)))
      (.call (some 28) 6 [(.var 27)] [])
      (.clr [28]))
   (.set 2 (.pick (.var 24) (.eqx false (.cons 0 none .int (.cons 1 none .int (.cons 2 none .int (.cons 3 none .int (.cons 4 none .bool (.cons 5 none .bool .nil)))))) (.var 26) (.var 28)) (.const (.bool false)))))))))))))))))))))))))))
  .ret)))))
abbrev v_tipstafflaw11_RightsLess : List Nat := [0, 1, 4, 2, 5, 7, 6, 13, 22, 32, 42, 52, 56, 59, 60, 61, 62, 66, 67, 68, 69, 72, 77, 78, 75, 79, 80, 81, 82, 70, 71]
abbrev k_tipstafflaw11_RightsLess : List (List Nat) := []
abbrev r_tipstafflaw11_RightsLess : List Ex := [(.var 2)]
/- tipstaff/tipstafflaw11.RightsMeets -/
def c_tipstafflaw11_RightsMeets : Cmd :=
  (.seq
   (.seq
    (.new (some 4) 24 (.var 0) [])
   (.seq
    (.new (some 5) 24 (.var 1) [])
   (.seq
    (.new (some 6) 24 (.var 2) [])
   (.set 3 (.const (.bool false))))))
  (.seq
   (.seq
    .draw
   (.seq
    (.set 15 (.ld (some 6) (.var 4)))
   (.seq
    (.set 8 (.ld (some 6) (.var 5)))
   (.seq
    (.set 10 (.ld (some 6) (.var 6)))
   (.alt
    (.seq
     (.call (some 7) 6 [(.var 15)] [(.ld (some 6) (.var 6)), (.ld (some 6) (.var 5)), (.ld (some 6) (.var 4))])
    (.alt
     (.seq
      (.call (some 9) 6 [(.var 8)] [(.ld (some 6) (.var 6)), (.ld (some 6) (.var 5)), (.ld (some 6) (.var 4))])
     (.alt
      (.seq
       (.call (some 11) 6 [(.var 10)] [(.ld (some 6) (.var 6)), (.ld (some 6) (.var 5)), (.ld (some 6) (.var 4))])
      (.alt
       (.seq
        (.new (some 12) 27 (.const (.agg #[(.int .u16 0), (.int .u16 0), (.int .u16 0), (.int .u16 0), (.bool false), (.bool false)])) [(.ld (some 6) (.var 6)), (.ld (some 6) (.var 5)), (.ld (some 6) (.var 4))])
       (.alt
        (.seq
         (.new (some 13) 27 (.const (.agg #[(.int .u16 0), (.int .u16 0), (.int .u16 0), (.int .u16 0), (.bool false), (.bool false)])) [(.ld (some 6) (.var 6)), (.ld (some 6) (.var 5)), (.ld (some 6) (.var 4))])
        (.seq
         (.new (some 14) 27 (.const (.agg #[(.int .u16 0), (.int .u16 0), (.int .u16 0), (.int .u16 0), (.bool false), (.bool false)])) [(.ld (some 6) (.var 6)), (.ld (some 6) (.var 5)), (.ld (some 6) (.var 4))])
        (.seq
         (.store 6 (.var 12) (.var 7) [])
        (.seq
         (.store 6 (.var 13) (.var 9) [])
        (.store 6 (.var 14) (.var 11) [])))))
       (.seq
        (.new (some 14) 27 (.const (.agg #[(.int .u16 0), (.int .u16 0), (.int .u16 0), (.int .u16 0), (.bool false), (.bool false)])) [(.ld (some 6) (.var 6)), (.ld (some 6) (.var 5)), (.ld (some 6) (.var 4))])
       (.seq
        (.new (some 13) 27 (.const (.agg #[(.int .u16 0), (.int .u16 0), (.int .u16 0), (.int .u16 0), (.bool false), (.bool false)])) [(.ld (some 6) (.var 6)), (.ld (some 6) (.var 5)), (.ld (some 6) (.var 4))])
       (.seq
        (.store 6 (.var 12) (.var 7) [])
       (.seq
        (.store 6 (.var 13) (.var 9) [])
       (.store 6 (.var 14) (.var 11) [])))))))
      (.alt
       (.seq
        (.new (some 13) 27 (.const (.agg #[(.int .u16 0), (.int .u16 0), (.int .u16 0), (.int .u16 0), (.bool false), (.bool false)])) [(.ld (some 6) (.var 6)), (.ld (some 6) (.var 5)), (.ld (some 6) (.var 4))])
       (.alt
        (.seq
         (.new (some 12) 27 (.const (.agg #[(.int .u16 0), (.int .u16 0), (.int .u16 0), (.int .u16 0), (.bool false), (.bool false)])) [(.ld (some 6) (.var 6)), (.ld (some 6) (.var 5)), (.ld (some 6) (.var 4))])
        (.seq
         (.new (some 14) 27 (.const (.agg #[(.int .u16 0), (.int .u16 0), (.int .u16 0), (.int .u16 0), (.bool false), (.bool false)])) [(.ld (some 6) (.var 6)), (.ld (some 6) (.var 5)), (.ld (some 6) (.var 4))])
        (.seq
         (.store 6 (.var 12) (.var 7) [])
        (.seq
         (.store 6 (.var 13) (.var 9) [])
        (.store 6 (.var 14) (.var 11) [])))))
       (.seq
        (.new (some 14) 27 (.const (.agg #[(.int .u16 0), (.int .u16 0), (.int .u16 0), (.int .u16 0), (.bool false), (.bool false)])) [(.ld (some 6) (.var 6)), (.ld (some 6) (.var 5)), (.ld (some 6) (.var 4))])
       (.seq
        (.new (some 12) 27 (.const (.agg #[(.int .u16 0), (.int .u16 0), (.int .u16 0), (.int .u16 0), (.bool false), (.bool false)])) [(.ld (some 6) (.var 6)), (.ld (some 6) (.var 5)), (.ld (some 6) (.var 4))])
       (.seq
        (.store 6 (.var 12) (.var 7) [])
       (.seq
        (.store 6 (.var 13) (.var 9) [])
       (.store 6 (.var 14) (.var 11) [])))))))
      (.seq
       (.new (some 14) 27 (.const (.agg #[(.int .u16 0), (.int .u16 0), (.int .u16 0), (.int .u16 0), (.bool false), (.bool false)])) [(.ld (some 6) (.var 6)), (.ld (some 6) (.var 5)), (.ld (some 6) (.var 4))])
      (.alt
       (.seq
        (.new (some 12) 27 (.const (.agg #[(.int .u16 0), (.int .u16 0), (.int .u16 0), (.int .u16 0), (.bool false), (.bool false)])) [(.ld (some 6) (.var 6)), (.ld (some 6) (.var 5)), (.ld (some 6) (.var 4))])
       (.seq
        (.new (some 13) 27 (.const (.agg #[(.int .u16 0), (.int .u16 0), (.int .u16 0), (.int .u16 0), (.bool false), (.bool false)])) [(.ld (some 6) (.var 6)), (.ld (some 6) (.var 5)), (.ld (some 6) (.var 4))])
       (.seq
        (.store 6 (.var 12) (.var 7) [])
       (.seq
        (.store 6 (.var 13) (.var 9) [])
       (.store 6 (.var 14) (.var 11) [])))))
      (.seq
       (.new (some 13) 27 (.const (.agg #[(.int .u16 0), (.int .u16 0), (.int .u16 0), (.int .u16 0), (.bool false), (.bool false)])) [(.ld (some 6) (.var 6)), (.ld (some 6) (.var 5)), (.ld (some 6) (.var 4))])
      (.seq
       (.new (some 12) 27 (.const (.agg #[(.int .u16 0), (.int .u16 0), (.int .u16 0), (.int .u16 0), (.bool false), (.bool false)])) [(.ld (some 6) (.var 6)), (.ld (some 6) (.var 5)), (.ld (some 6) (.var 4))])
      (.seq
       (.store 6 (.var 12) (.var 7) [])
      (.seq
       (.store 6 (.var 13) (.var 9) [])
      (.store 6 (.var 14) (.var 11) []))))))))))
     (.alt
      (.seq
       (.new (some 12) 27 (.const (.agg #[(.int .u16 0), (.int .u16 0), (.int .u16 0), (.int .u16 0), (.bool false), (.bool false)])) [(.ld (some 6) (.var 6)), (.ld (some 6) (.var 5)), (.ld (some 6) (.var 4))])
      (.alt
       (.seq
        (.call (some 11) 6 [(.var 10)] [(.ld (some 6) (.var 6)), (.ld (some 6) (.var 5)), (.ld (some 6) (.var 4))])
       (.alt
        (.seq
         (.new (some 13) 27 (.const (.agg #[(.int .u16 0), (.int .u16 0), (.int .u16 0), (.int .u16 0), (.bool false), (.bool false)])) [(.ld (some 6) (.var 6)), (.ld (some 6) (.var 5)), (.ld (some 6) (.var 4))])
        (.seq
         (.new (some 14) 27 (.const (.agg #[(.int .u16 0), (.int .u16 0), (.int .u16 0), (.int .u16 0), (.bool false), (.bool false)])) [(.ld (some 6) (.var 6)), (.ld (some 6) (.var 5)), (.ld (some 6) (.var 4))])
        (.seq
         (.store 6 (.var 12) (.var 7) [])
        (.seq
         (.store 6 (.var 13) (.var 9) [])
        (.store 6 (.var 14) (.var 11) [])))))
       (.seq
        (.new (some 14) 27 (.const (.agg #[(.int .u16 0), (.int .u16 0), (.int .u16 0), (.int .u16 0), (.bool false), (.bool false)])) [(.ld (some 6) (.var 6)), (.ld (some 6) (.var 5)), (.ld (some 6) (.var 4))])
       (.seq
        (.new (some 13) 27 (.const (.agg #[(.int .u16 0), (.int .u16 0), (.int .u16 0), (.int .u16 0), (.bool false), (.bool false)])) [(.ld (some 6) (.var 6)), (.ld (some 6) (.var 5)), (.ld (some 6) (.var 4))])
       (.seq
        (.store 6 (.var 12) (.var 7) [])
       (.seq
        (.store 6 (.var 13) (.var 9) [])
       (.store 6 (.var 14) (.var 11) [])))))))
      (.alt
       (.seq
        (.new (some 13) 27 (.const (.agg #[(.int .u16 0), (.int .u16 0), (.int .u16 0), (.int .u16 0), (.bool false), (.bool false)])) [(.ld (some 6) (.var 6)), (.ld (some 6) (.var 5)), (.ld (some 6) (.var 4))])
       (.alt
        (.seq
         (.call (some 11) 6 [(.var 10)] [(.ld (some 6) (.var 6)), (.ld (some 6) (.var 5)), (.ld (some 6) (.var 4))])
        (.seq
         (.new (some 14) 27 (.const (.agg #[(.int .u16 0), (.int .u16 0), (.int .u16 0), (.int .u16 0), (.bool false), (.bool false)])) [(.ld (some 6) (.var 6)), (.ld (some 6) (.var 5)), (.ld (some 6) (.var 4))])
        (.seq
         (.store 6 (.var 12) (.var 7) [])
        (.seq
         (.store 6 (.var 13) (.var 9) [])
        (.store 6 (.var 14) (.var 11) [])))))
       (.seq
        (.new (some 14) 27 (.const (.agg #[(.int .u16 0), (.int .u16 0), (.int .u16 0), (.int .u16 0), (.bool false), (.bool false)])) [(.ld (some 6) (.var 6)), (.ld (some 6) (.var 5)), (.ld (some 6) (.var 4))])
       (.seq
        (.call (some 11) 6 [(.var 10)] [])
       (.seq
        (.store 6 (.var 12) (.var 7) [])
       (.seq
        (.store 6 (.var 13) (.var 9) [])
       (.store 6 (.var 14) (.var 11) [])))))))
      (.seq
       (.new (some 14) 27 (.const (.agg #[(.int .u16 0), (.int .u16 0), (.int .u16 0), (.int .u16 0), (.bool false), (.bool false)])) [(.ld (some 6) (.var 6)), (.ld (some 6) (.var 5)), (.ld (some 6) (.var 4))])
      (.alt
       (.seq
        (.call (some 11) 6 [(.var 10)] [(.ld (some 6) (.var 6)), (.ld (some 6) (.var 5)), (.ld (some 6) (.var 4))])
       (.seq
        (.new (some 13) 27 (.const (.agg #[(.int .u16 0), (.int .u16 0), (.int .u16 0), (.int .u16 0), (.bool false), (.bool false)])) [(.ld (some 6) (.var 6)), (.ld (some 6) (.var 5)), (.ld (some 6) (.var 4))])
       (.seq
        (.store 6 (.var 12) (.var 7) [])
       (.seq
        (.store 6 (.var 13) (.var 9) [])
       (.store 6 (.var 14) (.var 11) [])))))
      (.seq
       (.new (some 13) 27 (.const (.agg #[(.int .u16 0), (.int .u16 0), (.int .u16 0), (.int .u16 0), (.bool false), (.bool false)])) [(.ld (some 6) (.var 6)), (.ld (some 6) (.var 5)), (.ld (some 6) (.var 4))])
      (.seq
       (.call (some 11) 6 [(.var 10)] [])
      (.seq
       (.store 6 (.var 12) (.var 7) [])
      (.seq
       (.store 6 (.var 13) (.var 9) [])
      (.store 6 (.var 14) (.var 11) []))))))))))
     (.alt
      (.seq
       (.new (some 13) 27 (.const (.agg #[(.int .u16 0), (.int .u16 0), (.int .u16 0), (.int .u16 0), (.bool false), (.bool false)])) [(.ld (some 6) (.var 6)), (.ld (some 6) (.var 5)), (.ld (some 6) (.var 4))])
      (.alt
       (.seq
        (.call (some 11) 6 [(.var 10)] [(.ld (some 6) (.var 6)), (.ld (some 6) (.var 5)), (.ld (some 6) (.var 4))])
       (.alt
        (.seq
         (.new (some 12) 27 (.const (.agg #[(.int .u16 0), (.int .u16 0), (.int .u16 0), (.int .u16 0), (.bool false), (.bool false)])) [(.ld (some 6) (.var 6)), (.ld (some 6) (.var 5)), (.ld (some 6) (.var 4))])
        (.seq
         (.new (some 14) 27 (.const (.agg #[(.int .u16 0), (.int .u16 0), (.int .u16 0), (.int .u16 0), (.bool false), (.bool false)])) [(.ld (some 6) (.var 6)), (.ld (some 6) (.var 5)), (.ld (some 6) (.var 4))])
        (.seq
         (.store 6 (.var 12) (.var 7) [])
        (.seq
         (.store 6 (.var 13) (.var 9) [])
        (.store 6 (.var 14) (.var 11) [])))))
       (.seq
        (.new (some 14) 27 (.const (.agg #[(.int .u16 0), (.int .u16 0), (.int .u16 0), (.int .u16 0), (.bool false), (.bool false)])) [(.ld (some 6) (.var 6)), (.ld (some 6) (.var 5)), (.ld (some 6) (.var 4))])
       (.seq
        (.new (some 12) 27 (.const (.agg #[(.int .u16 0), (.int .u16 0), (.int .u16 0), (.int .u16 0), (.bool false), (.bool false)])) [(.ld (some 6) (.var 6)), (.ld (some 6) (.var 5)), (.ld (some 6) (.var 4))])
       (.seq
        (.store 6 (.var 12) (.var 7) [])
       (.seq
        (.store 6 (.var 13) (.var 9) [])
       (.store 6 (.var 14) (.var 11) [])))))))
      (.alt
       (.seq
        (.new (some 12) 27 (.const (.agg #[(.int .u16 0), (.int .u16 0), (.int .u16 0), (.int .u16 0), (.bool false), (.bool false)])) [(.ld (some 6) (.var 6)), (.ld (some 6) (.var 5)), (.ld (some 6) (.var 4))])
       (.alt
        (.seq
         (.call (some 11) 6 [(.var 10)] [(.ld (some 6) (.var 6)), (.ld (some 6) (.var 5)), (.ld (some 6) (.var 4))])
        (.seq
         (.new (some 14) 27 (.const (.agg #[(.int .u16 0), (.int .u16 0), (.int .u16 0), (.int .u16 0), (.bool false), (.bool false)])) [(.ld (some 6) (.var 6)), (.ld (some 6) (.var 5)), (.ld (some 6) (.var 4))])
        (.seq
         (.store 6 (.var 12) (.var 7) [])
        (.seq
         (.store 6 (.var 13) (.var 9) [])
        (.store 6 (.var 14) (.var 11) [])))))
       (.seq
        (.new (some 14) 27 (.const (.agg #[(.int .u16 0), (.int .u16 0), (.int .u16 0), (.int .u16 0), (.bool false), (.bool false)])) [(.ld (some 6) (.var 6)), (.ld (some 6) (.var 5)), (.ld (some 6) (.var 4))])
       (.seq
        (.call (some 11) 6 [(.var 10)] [])
       (.seq
        (.store 6 (.var 12) (.var 7) [])
       (.seq
        (.store 6 (.var 13) (.var 9) [])
       (.store 6 (.var 14) (.var 11) [])))))))
      (.seq
       (.new (some 14) 27 (.const (.agg #[(.int .u16 0), (.int .u16 0), (.int .u16 0), (.int .u16 0), (.bool false), (.bool false)])) [(.ld (some 6) (.var 6)), (.ld (some 6) (.var 5)), (.ld (some 6) (.var 4))])
      (.alt
       (.seq
        (.call (some 11) 6 [(.var 10)] [(.ld (some 6) (.var 6)), (.ld (some 6) (.var 5)), (.ld (some 6) (.var 4))])
       (.seq
        (.new (some 12) 27 (.const (.agg #[(.int .u16 0), (.int .u16 0), (.int .u16 0), (.int .u16 0), (.bool false), (.bool false)])) [(.ld (some 6) (.var 6)), (.ld (some 6) (.var 5)), (.ld (some 6) (.var 4))])
       (.seq
        (.store 6 (.var 12) (.var 7) [])
       (.seq
        (.store 6 (.var 13) (.var 9) [])
       (.store 6 (.var 14) (.var 11) [])))))
      (.seq
       (.new (some 12) 27 (.const (.agg #[(.int .u16 0), (.int .u16 0), (.int .u16 0), (.int .u16 0), (.bool false), (.bool false)])) [(.ld (some 6) (.var 6)), (.ld (some 6) (.var 5)), (.ld (some 6) (.var 4))])
      (.seq
       (.call (some 11) 6 [(.var 10)] [])
      (.seq
       (.store 6 (.var 12) (.var 7) [])
      (.seq
       (.store 6 (.var 13) (.var 9) [])
      (.store 6 (.var 14) (.var 11) []))))))))))
     (.seq
      (.new (some 14) 27 (.const (.agg #[(.int .u16 0), (.int .u16 0), (.int .u16 0), (.int .u16 0), (.bool false), (.bool false)])) [(.ld (some 6) (.var 6)), (.ld (some 6) (.var 5)), (.ld (some 6) (.var 4))])
     (.alt
      (.seq
       (.call (some 11) 6 [(.var 10)] [(.ld (some 6) (.var 6)), (.ld (some 6) (.var 5)), (.ld (some 6) (.var 4))])
      (.alt
       (.seq
        (.new (some 12) 27 (.const (.agg #[(.int .u16 0), (.int .u16 0), (.int .u16 0), (.int .u16 0), (.bool false), (.bool false)])) [(.ld (some 6) (.var 6)), (.ld (some 6) (.var 5)), (.ld (some 6) (.var 4))])
       (.seq
        (.new (some 13) 27 (.const (.agg #[(.int .u16 0), (.int .u16 0), (.int .u16 0), (.int .u16 0), (.bool false), (.bool false)])) [(.ld (some 6) (.var 6)), (.ld (some 6) (.var 5)), (.ld (some 6) (.var 4))])
       (.seq
        (.store 6 (.var 12) (.var 7) [])
       (.seq
        (.store 6 (.var 13) (.var 9) [])
       (.store 6 (.var 14) (.var 11) [])))))
      (.seq
       (.new (some 13) 27 (.const (.agg #[(.int .u16 0), (.int .u16 0), (.int .u16 0), (.int .u16 0), (.bool false), (.bool false)])) [(.ld (some 6) (.var 6)), (.ld (some 6) (.var 5)), (.ld (some 6) (.var 4))])
      (.seq
       (.new (some 12) 27 (.const (.agg #[(.int .u16 0), (.int .u16 0), (.int .u16 0), (.int .u16 0), (.bool false), (.bool false)])) [(.ld (some 6) (.var 6)), (.ld (some 6) (.var 5)), (.ld (some 6) (.var 4))])
      (.seq
       (.store 6 (.var 12) (.var 7) [])
      (.seq
       (.store 6 (.var 13) (.var 9) [])
      (.store 6 (.var 14) (.var 11) [])))))))
     (.alt
      (.seq
       (.new (some 12) 27 (.const (.agg #[(.int .u16 0), (.int .u16 0), (.int .u16 0), (.int .u16 0), (.bool false), (.bool false)])) [(.ld (some 6) (.var 6)), (.ld (some 6) (.var 5)), (.ld (some 6) (.var 4))])
      (.alt
       (.seq
        (.call (some 11) 6 [(.var 10)] [(.ld (some 6) (.var 6)), (.ld (some 6) (.var 5)), (.ld (some 6) (.var 4))])
       (.seq
        (.new (some 13) 27 (.const (.agg #[(.int .u16 0), (.int .u16 0), (.int .u16 0), (.int .u16 0), (.bool false), (.bool false)])) [(.ld (some 6) (.var 6)), (.ld (some 6) (.var 5)), (.ld (some 6) (.var 4))])
       (.seq
        (.store 6 (.var 12) (.var 7) [])
       (.seq
        (.store 6 (.var 13) (.var 9) [])
       (.store 6 (.var 14) (.var 11) [])))))
      (.seq
       (.new (some 13) 27 (.const (.agg #[(.int .u16 0), (.int .u16 0), (.int .u16 0), (.int .u16 0), (.bool false), (.bool false)])) [(.ld (some 6) (.var 6)), (.ld (some 6) (.var 5)), (.ld (some 6) (.var 4))])
      (.seq
       (.call (some 11) 6 [(.var 10)] [])
      (.seq
       (.store 6 (.var 12) (.var 7) [])
      (.seq
       (.store 6 (.var 13) (.var 9) [])
      (.store 6 (.var 14) (.var 11) [])))))))
     (.seq
      (.new (some 13) 27 (.const (.agg #[(.int .u16 0), (.int .u16 0), (.int .u16 0), (.int .u16 0), (.bool false), (.bool false)])) [(.ld (some 6) (.var 6)), (.ld (some 6) (.var 5)), (.ld (some 6) (.var 4))])
     (.alt
      (.seq
       (.call (some 11) 6 [(.var 10)] [(.ld (some 6) (.var 6)), (.ld (some 6) (.var 5)), (.ld (some 6) (.var 4))])
      (.seq
       (.new (some 12) 27 (.const (.agg #[(.int .u16 0), (.int .u16 0), (.int .u16 0), (.int .u16 0), (.bool false), (.bool false)])) [(.ld (some 6) (.var 6)), (.ld (some 6) (.var 5)), (.ld (some 6) (.var 4))])
      (.seq
       (.store 6 (.var 12) (.var 7) [])
      (.seq
       (.store 6 (.var 13) (.var 9) [])
      (.store 6 (.var 14) (.var 11) [])))))
     (.seq
      (.new (some 12) 27 (.const (.agg #[(.int .u16 0), (.int .u16 0), (.int .u16 0), (.int .u16 0), (.bool false), (.bool false)])) [(.ld (some 6) (.var 6)), (.ld (some 6) (.var 5)), (.ld (some 6) (.var 4))])
     (.seq
      (.call (some 11) 6 [(.var 10)] [])
     (.seq
      (.store 6 (.var 12) (.var 7) [])
     (.seq
      (.store 6 (.var 13) (.var 9) [])
     (.store 6 (.var 14) (.var 11) []))))))))))))))
    (.alt
     (.seq
      (.new (some 12) 27 (.const (.agg #[(.int .u16 0), (.int .u16 0), (.int .u16 0), (.int .u16 0), (.bool false), (.bool false)])) [(.ld (some 6) (.var 6)), (.ld (some 6) (.var 5)), (.ld (some 6) (.var 4))])
     (.alt
      (.seq
       (.call (some 9) 6 [(.var 8)] [(.ld (some 6) (.var 6)), (.ld (some 6) (.var 5)), (.ld (some 6) (.var 4))])
      (.alt
       (.seq
        (.call (some 11) 6 [(.var 10)] [(.ld (some 6) (.var 6)), (.ld (some 6) (.var 5)), (.ld (some 6) (.var 4))])
       (.alt
        (.seq
         (.new (some 13) 27 (.const (.agg #[(.int .u16 0), (.int .u16 0), (.int .u16 0), (.int .u16 0), (.bool false), (.bool false)])) [(.ld (some 6) (.var 6)), (.ld (some 6) (.var 5)), (.ld (some 6) (.var 4))])
        (.seq
         (.new (some 14) 27 (.const (.agg #[(.int .u16 0), (.int .u16 0), (.int .u16 0), (.int .u16 0), (.bool false), (.bool false)])) [(.ld (some 6) (.var 6)), (.ld (some 6) (.var 5)), (.ld (some 6) (.var 4))])
        (.seq
         (.store 6 (.var 12) (.var 7) [])
        (.seq
         (.store 6 (.var 13) (.var 9) [])
        (.store 6 (.var 14) (.var 11) [])))))
       (.seq
        (.new (some 14) 27 (.const (.agg #[(.int .u16 0), (.int .u16 0), (.int .u16 0), (.int .u16 0), (.bool false), (.bool false)])) [(.ld (some 6) (.var 6)), (.ld (some 6) (.var 5)), (.ld (some 6) (.var 4))])
       (.seq
        (.new (some 13) 27 (.const (.agg #[(.int .u16 0), (.int .u16 0), (.int .u16 0), (.int .u16 0), (.bool false), (.bool false)])) [(.ld (some 6) (.var 6)), (.ld (some 6) (.var 5)), (.ld (some 6) (.var 4))])
       (.seq
        (.store 6 (.var 12) (.var 7) [])
       (.seq
        (.store 6 (.var 13) (.var 9) [])
       (.store 6 (.var 14) (.var 11) [])))))))
      (.alt
       (.seq
        (.new (some 13) 27 (.const (.agg #[(.int .u16 0), (.int .u16 0), (.int .u16 0), (.int .u16 0), (.bool false), (.bool false)])) [(.ld (some 6) (.var 6)), (.ld (some 6) (.var 5)), (.ld (some 6) (.var 4))])
       (.alt
        (.seq
         (.call (some 11) 6 [(.var 10)] [(.ld (some 6) (.var 6)), (.ld (some 6) (.var 5)), (.ld (some 6) (.var 4))])
        (.seq
         (.new (some 14) 27 (.const (.agg #[(.int .u16 0), (.int .u16 0), (.int .u16 0), (.int .u16 0), (.bool false), (.bool false)])) [(.ld (some 6) (.var 6)), (.ld (some 6) (.var 5)), (.ld (some 6) (.var 4))])
        (.seq
         (.store 6 (.var 12) (.var 7) [])
        (.seq
         (.store 6 (.var 13) (.var 9) [])
        (.store 6 (.var 14) (.var 11) [])))))
       (.seq
        (.new (some 14) 27 (.const (.agg #[(.int .u16 0), (.int .u16 0), (.int .u16 0), (.int .u16 0), (.bool false), (.bool false)])) [(.ld (some 6) (.var 6)), (.ld (some 6) (.var 5)), (.ld (some 6) (.var 4))])
       (.seq
        (.call (some 11) 6 [(.var 10)] [])
       (.seq
        (.store 6 (.var 12) (.var 7) [])
       (.seq
        (.store 6 (.var 13) (.var 9) [])
       (.store 6 (.var 14) (.var 11) [])))))))
      (.seq
       (.new (some 14) 27 (.const (.agg #[(.int .u16 0), (.int .u16 0), (.int .u16 0), (.int .u16 0), (.bool false), (.bool false)])) [(.ld (some 6) (.var 6)), (.ld (some 6) (.var 5)), (.ld (some 6) (.var 4))])
      (.alt
       (.seq
        (.call (some 11) 6 [(.var 10)] [(.ld (some 6) (.var 6)), (.ld (some 6) (.var 5)), (.ld (some 6) (.var 4))])
       (.seq
        (.new (some 13) 27 (.const (.agg #[(.int .u16 0), (.int .u16 0), (.int .u16 0), (.int .u16 0), (.bool false), (.bool false)])) [(.ld (some 6) (.var 6)), (.ld (some 6) (.var 5)), (.ld (some 6) (.var 4))])
       (.seq
        (.store 6 (.var 12) (.var 7) [])
       (.seq
        (.store 6 (.var 13) (.var 9) [])
       (.store 6 (.var 14) (.var 11) [])))))
      (.seq
       (.new (some 13) 27 (.const (.agg #[(.int .u16 0), (.int .u16 0), (.int .u16 0), (.int .u16 0), (.bool false), (.bool false)])) [(.ld (some 6) (.var 6)), (.ld (some 6) (.var 5)), (.ld (some 6) (.var 4))])
      (.seq
       (.call (some 11) 6 [(.var 10)] [])
      (.seq
       (.store 6 (.var 12) (.var 7) [])
      (.seq
       (.store 6 (.var 13) (.var 9) [])
      (.store 6 (.var 14) (.var 11) []))))))))))
     (.alt
      (.seq
       (.new (some 13) 27 (.const (.agg #[(.int .u16 0), (.int .u16 0), (.int .u16 0), (.int .u16 0), (.bool false), (.bool false)])) [(.ld (some 6) (.var 6)), (.ld (some 6) (.var 5)), (.ld (some 6) (.var 4))])
      (.alt
       (.seq
        (.call (some 9) 6 [(.var 8)] [(.ld (some 6) (.var 6)), (.ld (some 6) (.var 5)), (.ld (some 6) (.var 4))])
       (.alt
        (.seq
         (.call (some 11) 6 [(.var 10)] [(.ld (some 6) (.var 6)), (.ld (some 6) (.var 5)), (.ld (some 6) (.var 4))])
        (.seq
         (.new (some 14) 27 (.const (.agg #[(.int .u16 0), (.int .u16 0), (.int .u16 0), (.int .u16 0), (.bool false), (.bool false)])) [(.ld (some 6) (.var 6)), (.ld (some 6) (.var 5)), (.ld (some 6) (.var 4))])
        (.seq
         (.store 6 (.var 12) (.var 7) [])
        (.seq
         (.store 6 (.var 13) (.var 9) [])
        (.store 6 (.var 14) (.var 11) [])))))
       (.seq
        (.new (some 14) 27 (.const (.agg #[(.int .u16 0), (.int .u16 0), (.int .u16 0), (.int .u16 0), (.bool false), (.bool false)])) [(.ld (some 6) (.var 6)), (.ld (some 6) (.var 5)), (.ld (some 6) (.var 4))])
       (.seq
        (.call (some 11) 6 [(.var 10)] [])
       (.seq
        (.store 6 (.var 12) (.var 7) [])
       (.seq
        (.store 6 (.var 13) (.var 9) [])
       (.store 6 (.var 14) (.var 11) [])))))))
      (.seq
       (.new (some 14) 27 (.const (.agg #[(.int .u16 0), (.int .u16 0), (.int .u16 0), (.int .u16 0), (.bool false), (.bool false)])) [(.ld (some 6) (.var 6)), (.ld (some 6) (.var 5)), (.ld (some 6) (.var 4))])
      (.seq
       (.call (some 9) 6 [(.var 8)] [(.ld (some 6) (.var 6))])
      (.seq
       (.call (some 11) 6 [(.var 10)] [])
      (.seq
       (.store 6 (.var 12) (.var 7) [])
      (.seq
       (.store 6 (.var 13) (.var 9) [])
      (.store 6 (.var 14) (.var 11) []))))))))
     (.seq
      (.new (some 14) 27 (.const (.agg #[(.int .u16 0), (.int .u16 0), (.int .u16 0), (.int .u16 0), (.bool false), (.bool false)])) [(.ld (some 6) (.var 6)), (.ld (some 6) (.var 5)), (.ld (some 6) (.var 4))])
     (.alt
      (.seq
       (.call (some 9) 6 [(.var 8)] [(.ld (some 6) (.var 6)), (.ld (some 6) (.var 5)), (.ld (some 6) (.var 4))])
      (.alt
       (.seq
        (.call (some 11) 6 [(.var 10)] [(.ld (some 6) (.var 6)), (.ld (some 6) (.var 5)), (.ld (some 6) (.var 4))])
       (.seq
        (.new (some 13) 27 (.const (.agg #[(.int .u16 0), (.int .u16 0), (.int .u16 0), (.int .u16 0), (.bool false), (.bool false)])) [(.ld (some 6) (.var 6)), (.ld (some 6) (.var 5)), (.ld (some 6) (.var 4))])
       (.seq
        (.store 6 (.var 12) (.var 7) [])
       (.seq
        (.store 6 (.var 13) (.var 9) [])
       (.store 6 (.var 14) (.var 11) [])))))
      (.seq
       (.new (some 13) 27 (.const (.agg #[(.int .u16 0), (.int .u16 0), (.int .u16 0), (.int .u16 0), (.bool false), (.bool false)])) [(.ld (some 6) (.var 6)), (.ld (some 6) (.var 5)), (.ld (some 6) (.var 4))])
      (.seq
       (.call (some 11) 6 [(.var 10)] [])
      (.seq
       (.store 6 (.var 12) (.var 7) [])
      (.seq
       (.store 6 (.var 13) (.var 9) [])
      (.store 6 (.var 14) (.var 11) [])))))))
     (.seq
      (.new (some 13) 27 (.const (.agg #[(.int .u16 0), (.int .u16 0), (.int .u16 0), (.int .u16 0), (.bool false), (.bool false)])) [(.ld (some 6) (.var 6)), (.ld (some 6) (.var 5)), (.ld (some 6) (.var 4))])
     (.seq
      (.call (some 9) 6 [(.var 8)] [(.ld (some 6) (.var 6))])
     (.seq
      (.call (some 11) 6 [(.var 10)] [])
     (.seq
      (.store 6 (.var 12) (.var 7) [])
     (.seq
      (.store 6 (.var 13) (.var 9) [])
     (.store 6 (.var 14) (.var 11) [])))))))))))
    (.alt
     (.seq
      (.new (some 13) 27 (.const (.agg #[(.int .u16 0), (.int .u16 0), (.int .u16 0), (.int .u16 0), (.bool false), (.bool false)])) [(.ld (some 6) (.var 6)), (.ld (some 6) (.var 5)), (.ld (some 6) (.var 4))])
     (.alt
      (.seq
       (.call (some 9) 6 [(.var 8)] [(.ld (some 6) (.var 6)), (.ld (some 6) (.var 5)), (.ld (some 6) (.var 4))])
      (.alt
       (.seq
        (.call (some 11) 6 [(.var 10)] [(.ld (some 6) (.var 6)), (.ld (some 6) (.var 5)), (.ld (some 6) (.var 4))])
       (.alt
        (.seq
         (.new (some 12) 27 (.const (.agg #[(.int .u16 0), (.int .u16 0), (.int .u16 0), (.int .u16 0), (.bool false), (.bool false)])) [(.ld (some 6) (.var 6)), (.ld (some 6) (.var 5)), (.ld (some 6) (.var 4))])
        (.seq
         (.new (some 14) 27 (.const (.agg #[(.int .u16 0), (.int .u16 0), (.int .u16 0), (.int .u16 0), (.bool false), (.bool false)])) [(.ld (some 6) (.var 6)), (.ld (some 6) (.var 5)), (.ld (some 6) (.var 4))])
        (.seq
         (.store 6 (.var 12) (.var 7) [])
        (.seq
         (.store 6 (.var 13) (.var 9) [])
        (.store 6 (.var 14) (.var 11) [])))))
       (.seq
        (.new (some 14) 27 (.const (.agg #[(.int .u16 0), (.int .u16 0), (.int .u16 0), (.int .u16 0), (.bool false), (.bool false)])) [(.ld (some 6) (.var 6)), (.ld (some 6) (.var 5)), (.ld (some 6) (.var 4))])
       (.seq
        (.new (some 12) 27 (.const (.agg #[(.int .u16 0), (.int .u16 0), (.int .u16 0), (.int .u16 0), (.bool false), (.bool false)])) [(.ld (some 6) (.var 6)), (.ld (some 6) (.var 5)), (.ld (some 6) (.var 4))])
       (.seq
        (.store 6 (.var 12) (.var 7) [])
       (.seq
        (.store 6 (.var 13) (.var 9) [])
       (.store 6 (.var 14) (.var 11) [])))))))
      (.alt
       (.seq
        (.new (some 12) 27 (.const (.agg #[(.int .u16 0), (.int .u16 0), (.int .u16 0), (.int .u16 0), (.bool false), (.bool false)])) [(.ld (some 6) (.var 6)), (.ld (some 6) (.var 5)), (.ld (some 6) (.var 4))])
       (.alt
        (.seq
         (.call (some 11) 6 [(.var 10)] [(.ld (some 6) (.var 6)), (.ld (some 6) (.var 5)), (.ld (some 6) (.var 4))])
        (.seq
         (.new (some 14) 27 (.const (.agg #[(.int .u16 0), (.int .u16 0), (.int .u16 0), (.int .u16 0), (.bool false), (.bool false)])) [(.ld (some 6) (.var 6)), (.ld (some 6) (.var 5)), (.ld (some 6) (.var 4))])
        (.seq
         (.store 6 (.var 12) (.var 7) [])
        (.seq
         (.store 6 (.var 13) (.var 9) [])
        (.store 6 (.var 14) (.var 11) [])))))
       (.seq
        (.new (some 14) 27 (.const (.agg #[(.int .u16 0), (.int .u16 0), (.int .u16 0), (.int .u16 0), (.bool false), (.bool false)])) [(.ld (some 6) (.var 6)), (.ld (some 6) (.var 5)), (.ld (some 6) (.var 4))])
       (.seq
        (.call (some 11) 6 [(.var 10)] [])
       (.seq
        (.store 6 (.var 12) (.var 7) [])
       (.seq
        (.store 6 (.var 13) (.var 9) [])
       (.store 6 (.var 14) (.var 11) [])))))))
      (.seq
       (.new (some 14) 27 (.const (.agg #[(.int .u16 0), (.int .u16 0), (.int .u16 0), (.int .u16 0), (.bool false), (.bool false)])) [(.ld (some 6) (.var 6)), (.ld (some 6) (.var 5)), (.ld (some 6) (.var 4))])
      (.alt
       (.seq
        (.call (some 11) 6 [(.var 10)] [(.ld (some 6) (.var 6)), (.ld (some 6) (.var 5)), (.ld (some 6) (.var 4))])
       (.seq
        (.new (some 12) 27 (.const (.agg #[(.int .u16 0), (.int .u16 0), (.int .u16 0), (.int .u16 0), (.bool false), (.bool false)])) [(.ld (some 6) (.var 6)), (.ld (some 6) (.var 5)), (.ld (some 6) (.var 4))])
       (.seq
        (.store 6 (.var 12) (.var 7) [])
       (.seq
        (.store 6 (.var 13) (.var 9) [])
       (.store 6 (.var 14) (.var 11) [])))))
      (.seq
       (.new (some 12) 27 (.const (.agg #[(.int .u16 0), (.int .u16 0), (.int .u16 0), (.int .u16 0), (.bool false), (.bool false)])) [(.ld (some 6) (.var 6)), (.ld (some 6) (.var 5)), (.ld (some 6) (.var 4))])
      (.seq
       (.call (some 11) 6 [(.var 10)] [])
      (.seq
       (.store 6 (.var 12) (.var 7) [])
      (.seq
       (.store 6 (.var 13) (.var 9) [])
      (.store 6 (.var 14) (.var 11) []))))))))))
     (.alt
      (.seq
       (.new (some 12) 27 (.const (.agg #[(.int .u16 0), (.int .u16 0), (.int .u16 0), (.int .u16 0), (.bool false), (.bool false)])) [(.ld (some 6) (.var 6)), (.ld (some 6) (.var 5)), (.ld (some 6) (.var 4))])
      (.alt
       (.seq
        (.call (some 9) 6 [(.var 8)] [(.ld (some 6) (.var 6)), (.ld (some 6) (.var 5)), (.ld (some 6) (.var 4))])
       (.alt
        (.seq
         (.call (some 11) 6 [(.var 10)] [(.ld (some 6) (.var 6)), (.ld (some 6) (.var 5)), (.ld (some 6) (.var 4))])
        (.seq
         (.new (some 14) 27 (.const (.agg #[(.int .u16 0), (.int .u16 0), (.int .u16 0), (.int .u16 0), (.bool false), (.bool false)])) [(.ld (some 6) (.var 6)), (.ld (some 6) (.var 5)), (.ld (some 6) (.var 4))])
        (.seq
         (.store 6 (.var 12) (.var 7) [])
        (.seq
         (.store 6 (.var 13) (.var 9) [])
        (.store 6 (.var 14) (.var 11) [])))))
       (.seq
        (.new (some 14) 27 (.const (.agg #[(.int .u16 0), (.int .u16 0), (.int .u16 0), (.int .u16 0), (.bool false), (.bool false)])) [(.ld (some 6) (.var 6)), (.ld (some 6) (.var 5)), (.ld (some 6) (.var 4))])
       (.seq
        (.call (some 11) 6 [(.var 10)] [])
       (.seq
        (.store 6 (.var 12) (.var 7) [])
       (.seq
        (.store 6 (.var 13) (.var 9) [])
       (.store 6 (.var 14) (.var 11) [])))))))
      (.seq
       (.new (some 14) 27 (.const (.agg #[(.int .u16 0), (.int .u16 0), (.int .u16 0), (.int .u16 0), (.bool false), (.bool false)])) [(.ld (some 6) (.var 6)), (.ld (some 6) (.var 5)), (.ld (some 6) (.var 4))])
      (.seq
       (.call (some 9) 6 [(.var 8)] [(.ld (some 6) (.var 6))])
      (.seq
       (.call (some 11) 6 [(.var 10)] [])
      (.seq
       (.store 6 (.var 12) (.var 7) [])
      (.seq
       (.store 6 (.var 13) (.var 9) [])
      (.store 6 (.var 14) (.var 11) []))))))))
     (.seq
      (.new (some 14) 27 (.const (.agg #[(.int .u16 0), (.int .u16 0), (.int .u16 0), (.int .u16 0), (.bool false), (.bool false)])) [(.ld (some 6) (.var 6)), (.ld (some 6) (.var 5)), (.ld (some 6) (.var 4))])
     (.alt
      (.seq
       (.call (some 9) 6 [(.var 8)] [(.ld (some 6) (.var 6)), (.ld (some 6) (.var 5)), (.ld (some 6) (.var 4))])
      (.alt
       (.seq
        (.call (some 11) 6 [(.var 10)] [(.ld (some 6) (.var 6)), (.ld (some 6) (.var 5)), (.ld (some 6) (.var 4))])
       (.seq
        (.new (some 12) 27 (.const (.agg #[(.int .u16 0), (.int .u16 0), (.int .u16 0), (.int .u16 0), (.bool false), (.bool false)])) [(.ld (some 6) (.var 6)), (.ld (some 6) (.var 5)), (.ld (some 6) (.var 4))])
       (.seq
        (.store 6 (.var 12) (.var 7) [])
       (.seq
        (.store 6 (.var 13) (.var 9) [])
       (.store 6 (.var 14) (.var 11) [])))))
      (.seq
       (.new (some 12) 27 (.const (.agg #[(.int .u16 0), (.int .u16 0), (.int .u16 0), (.int .u16 0), (.bool false), (.bool false)])) [(.ld (some 6) (.var 6)), (.ld (some 6) (.var 5)), (.ld (some 6) (.var 4))])
      (.seq
       (.call (some 11) 6 [(.var 10)] [])
      (.seq
       (.store 6 (.var 12) (.var 7) [])
      (.seq
       (.store 6 (.var 13) (.var 9) [])
      (.store 6 (.var 14) (.var 11) [])))))))
     (.seq
      (.new (some 12) 27 (.const (.agg #[(.int .u16 0), (.int .u16 0), (.int .u16 0), (.int .u16 0), (.bool false), (.bool false)])) [(.ld (some 6) (.var 6)), (.ld (some 6) (.var 5)), (.ld (some 6) (.var 4))])
     (.seq
      (.call (some 9) 6 [(.var 8)] [(.ld (some 6) (.var 6))])
     (.seq
      (.call (some 11) 6 [(.var 10)] [])
     (.seq
      (.store 6 (.var 12) (.var 7) [])
     (.seq
      (.store 6 (.var 13) (.var 9) [])
     (.store 6 (.var 14) (.var 11) [])))))))))))
    (.seq
     (.new (some 14) 27 (.const (.agg #[(.int .u16 0), (.int .u16 0), (.int .u16 0), (.int .u16 0), (.bool false), (.bool false)])) [(.ld (some 6) (.var 6)), (.ld (some 6) (.var 5)), (.ld (some 6) (.var 4))])
    (.alt
     (.seq
      (.call (some 9) 6 [(.var 8)] [(.ld (some 6) (.var 6)), (.ld (some 6) (.var 5)), (.ld (some 6) (.var 4))])
     (.alt
      (.seq
       (.call (some 11) 6 [(.var 10)] [(.ld (some 6) (.var 6)), (.ld (some 6) (.var 5)), (.ld (some 6) (.var 4))])
      (.alt
       (.seq
        (.new (some 12) 27 (.const (.agg #[(.int .u16 0), (.int .u16 0), (.int .u16 0), (.int .u16 0), (.bool false), (.bool false)])) [(.ld (some 6) (.var 6)), (.ld (some 6) (.var 5)), (.ld (some 6) (.var 4))])
       (.seq
        (.new (some 13) 27 (.const (.agg #[(.int .u16 0), (.int .u16 0), (.int .u16 0), (.int .u16 0), (.bool false), (.bool false)])) [(.ld (some 6) (.var 6)), (.ld (some 6) (.var 5)), (.ld (some 6) (.var 4))])
       (.seq
        (.store 6 (.var 12) (.var 7) [])
       (.seq
        (.store 6 (.var 13) (.var 9) [])
       (.store 6 (.var 14) (.var 11) [])))))
      (.seq
       (.new (some 13) 27 (.const (.agg #[(.int .u16 0), (.int .u16 0), (.int .u16 0), (.int .u16 0), (.bool false), (.bool false)])) [(.ld (some 6) (.var 6)), (.ld (some 6) (.var 5)), (.ld (some 6) (.var 4))])
      (.seq
       (.new (some 12) 27 (.const (.agg #[(.int .u16 0), (.int .u16 0), (.int .u16 0), (.int .u16 0), (.bool false), (.bool false)])) [(.ld (some 6) (.var 6)), (.ld (some 6) (.var 5)), (.ld (some 6) (.var 4))])
      (.seq
       (.store 6 (.var 12) (.var 7) [])
      (.seq
       (.store 6 (.var 13) (.var 9) [])
      (.store 6 (.var 14) (.var 11) [])))))))
     (.alt
      (.seq
       (.new (some 12) 27 (.const (.agg #[(.int .u16 0), (.int .u16 0), (.int .u16 0), (.int .u16 0), (.bool false), (.bool false)])) [(.ld (some 6) (.var 6)), (.ld (some 6) (.var 5)), (.ld (some 6) (.var 4))])
      (.alt
       (.seq
        (.call (some 11) 6 [(.var 10)] [(.ld (some 6) (.var 6)), (.ld (some 6) (.var 5)), (.ld (some 6) (.var 4))])
       (.seq
        (.new (some 13) 27 (.const (.agg #[(.int .u16 0), (.int .u16 0), (.int .u16 0), (.int .u16 0), (.bool false), (.bool false)])) [(.ld (some 6) (.var 6)), (.ld (some 6) (.var 5)), (.ld (some 6) (.var 4))])
       (.seq
        (.store 6 (.var 12) (.var 7) [])
       (.seq
        (.store 6 (.var 13) (.var 9) [])
       (.store 6 (.var 14) (.var 11) [])))))
      (.seq
       (.new (some 13) 27 (.const (.agg #[(.int .u16 0), (.int .u16 0), (.int .u16 0), (.int .u16 0), (.bool false), (.bool false)])) [(.ld (some 6) (.var 6)), (.ld (some 6) (.var 5)), (.ld (some 6) (.var 4))])
      (.seq
       (.call (some 11) 6 [(.var 10)] [])
      (.seq
       (.store 6 (.var 12) (.var 7) [])
      (.seq
       (.store 6 (.var 13) (.var 9) [])
      (.store 6 (.var 14) (.var 11) [])))))))
     (.seq
      (.new (some 13) 27 (.const (.agg #[(.int .u16 0), (.int .u16 0), (.int .u16 0), (.int .u16 0), (.bool false), (.bool false)])) [(.ld (some 6) (.var 6)), (.ld (some 6) (.var 5)), (.ld (some 6) (.var 4))])
     (.alt
      (.seq
       (.call (some 11) 6 [(.var 10)] [(.ld (some 6) (.var 6)), (.ld (some 6) (.var 5)), (.ld (some 6) (.var 4))])
      (.seq
       (.new (some 12) 27 (.const (.agg #[(.int .u16 0), (.int .u16 0), (.int .u16 0), (.int .u16 0), (.bool false), (.bool false)])) [(.ld (some 6) (.var 6)), (.ld (some 6) (.var 5)), (.ld (some 6) (.var 4))])
      (.seq
       (.store 6 (.var 12) (.var 7) [])
      (.seq
       (.store 6 (.var 13) (.var 9) [])
      (.store 6 (.var 14) (.var 11) [])))))
     (.seq
      (.new (some 12) 27 (.const (.agg #[(.int .u16 0), (.int .u16 0), (.int .u16 0), (.int .u16 0), (.bool false), (.bool false)])) [(.ld (some 6) (.var 6)), (.ld (some 6) (.var 5)), (.ld (some 6) (.var 4))])
     (.seq
      (.call (some 11) 6 [(.var 10)] [])
     (.seq
      (.store 6 (.var 12) (.var 7) [])
     (.seq
      (.store 6 (.var 13) (.var 9) [])
     (.store 6 (.var 14) (.var 11) []))))))))))
    (.alt
     (.seq
      (.new (some 12) 27 (.const (.agg #[(.int .u16 0), (.int .u16 0), (.int .u16 0), (.int .u16 0), (.bool false), (.bool false)])) [(.ld (some 6) (.var 6)), (.ld (some 6) (.var 5)), (.ld (some 6) (.var 4))])
     (.alt
      (.seq
       (.call (some 9) 6 [(.var 8)] [(.ld (some 6) (.var 6)), (.ld (some 6) (.var 5)), (.ld (some 6) (.var 4))])
      (.alt
       (.seq
        (.call (some 11) 6 [(.var 10)] [(.ld (some 6) (.var 6)), (.ld (some 6) (.var 5)), (.ld (some 6) (.var 4))])
       (.seq
        (.new (some 13) 27 (.const (.agg #[(.int .u16 0), (.int .u16 0), (.int .u16 0), (.int .u16 0), (.bool false), (.bool false)])) [(.ld (some 6) (.var 6)), (.ld (some 6) (.var 5)), (.ld (some 6) (.var 4))])
       (.seq
        (.store 6 (.var 12) (.var 7) [])
       (.seq
        (.store 6 (.var 13) (.var 9) [])
       (.store 6 (.var 14) (.var 11) [])))))
      (.seq
       (.new (some 13) 27 (.const (.agg #[(.int .u16 0), (.int .u16 0), (.int .u16 0), (.int .u16 0), (.bool false), (.bool false)])) [(.ld (some 6) (.var 6)), (.ld (some 6) (.var 5)), (.ld (some 6) (.var 4))])
      (.seq
       (.call (some 11) 6 [(.var 10)] [])
      (.seq
       (.store 6 (.var 12) (.var 7) [])
      (.seq
       (.store 6 (.var 13) (.var 9) [])
      (.store 6 (.var 14) (.var 11) [])))))))
     (.seq
      (.new (some 13) 27 (.const (.agg #[(.int .u16 0), (.int .u16 0), (.int .u16 0), (.int .u16 0), (.bool false), (.bool false)])) [(.ld (some 6) (.var 6)), (.ld (some 6) (.var 5)), (.ld (some 6) (.var 4))])
     (.seq
      (.call (some 9) 6 [(.var 8)] [(.ld (some 6) (.var 6))])
     (.seq
      (.call (some 11) 6 [(.var 10)] [])
     (.seq
      (.store 6 (.var 12) (.var 7) [])
     (.seq
      (.store 6 (.var 13) (.var 9) [])
     (.store 6 (.var 14) (.var 11) []))))))))
    (.seq
     (.new (some 13) 27 (.const (.agg #[(.int .u16 0), (.int .u16 0), (.int .u16 0), (.int .u16 0), (.bool false), (.bool false)])) [(.ld (some 6) (.var 6)), (.ld (some 6) (.var 5)), (.ld (some 6) (.var 4))])
    (.alt
     (.seq
      (.call (some 9) 6 [(.var 8)] [(.ld (some 6) (.var 6)), (.ld (some 6) (.var 5)), (.ld (some 6) (.var 4))])
     (.alt
      (.seq
       (.call (some 11) 6 [(.var 10)] [(.ld (some 6) (.var 6)), (.ld (some 6) (.var 5)), (.ld (some 6) (.var 4))])
      (.seq
       (.new (some 12) 27 (.const (.agg #[(.int .u16 0), (.int .u16 0), (.int .u16 0), (.int .u16 0), (.bool false), (.bool false)])) [(.ld (some 6) (.var 6)), (.ld (some 6) (.var 5)), (.ld (some 6) (.var 4))])
      (.seq
       (.store 6 (.var 12) (.var 7) [])
      (.seq
       (.store 6 (.var 13) (.var 9) [])
      (.store 6 (.var 14) (.var 11) [])))))
     (.seq
      (.new (some 12) 27 (.const (.agg #[(.int .u16 0), (.int .u16 0), (.int .u16 0), (.int .u16 0), (.bool false), (.bool false)])) [(.ld (some 6) (.var 6)), (.ld (some 6) (.var 5)), (.ld (some 6) (.var 4))])
     (.seq
      (.call (some 11) 6 [(.var 10)] [])
     (.seq
      (.store 6 (.var 12) (.var 7) [])
     (.seq
      (.store 6 (.var 13) (.var 9) [])
     (.store 6 (.var 14) (.var 11) [])))))))
    (.seq
     (.new (some 12) 27 (.const (.agg #[(.int .u16 0), (.int .u16 0), (.int .u16 0), (.int .u16 0), (.bool false), (.bool false)])) [(.ld (some 6) (.var 6)), (.ld (some 6) (.var 5)), (.ld (some 6) (.var 4))])
    (.seq
     (.call (some 9) 6 [(.var 8)] [(.ld (some 6) (.var 6))])
    (.seq
     (.call (some 11) 6 [(.var 10)] [])
    (.seq
     (.store 6 (.var 12) (.var 7) [])
    (.seq
     (.store 6 (.var 13) (.var 9) [])
    (.store 6 (.var 14) (.var 11) [])))))))))))))))
   (.alt
    (.seq
     (.new (some 12) 27 (.const (.agg #[(.int .u16 0), (.int .u16 0), (.int .u16 0), (.int .u16 0), (.bool false), (.bool false)])) [(.ld (some 6) (.var 6)), (.ld (some 6) (.var 5)), (.ld (some 6) (.var 4))])
    (.alt
     (.seq
      (.call (some 7) 6 [(.var 15)] [(.ld (some 6) (.var 6)), (.ld (some 6) (.var 5)), (.ld (some 6) (.var 4))])
     (.alt
      (.seq
       (.call (some 9) 6 [(.var 8)] [(.ld (some 6) (.var 6)), (.ld (some 6) (.var 5)), (.ld (some 6) (.var 4))])
      (.alt
       (.seq
        (.call (some 11) 6 [(.var 10)] [(.ld (some 6) (.var 6)), (.ld (some 6) (.var 5)), (.ld (some 6) (.var 4))])
       (.alt
        (.seq
         (.new (some 13) 27 (.const (.agg #[(.int .u16 0), (.int .u16 0), (.int .u16 0), (.int .u16 0), (.bool false), (.bool false)])) [(.ld (some 6) (.var 6)), (.ld (some 6) (.var 5)), (.ld (some 6) (.var 4))])
        (.seq
         (.new (some 14) 27 (.const (.agg #[(.int .u16 0), (.int .u16 0), (.int .u16 0), (.int .u16 0), (.bool false), (.bool false)])) [(.ld (some 6) (.var 6)), (.ld (some 6) (.var 5)), (.ld (some 6) (.var 4))])
        (.seq
         (.store 6 (.var 12) (.var 7) [])
        (.seq
         (.store 6 (.var 13) (.var 9) [])
        (.store 6 (.var 14) (.var 11) [])))))
       (.seq
        (.new (some 14) 27 (.const (.agg #[(.int .u16 0), (.int .u16 0), (.int .u16 0), (.int .u16 0), (.bool false), (.bool false)])) [(.ld (some 6) (.var 6)), (.ld (some 6) (.var 5)), (.ld (some 6) (.var 4))])
       (.seq
        (.new (some 13) 27 (.const (.agg #[(.int .u16 0), (.int .u16 0), (.int .u16 0), (.int .u16 0), (.bool false), (.bool false)])) [(.ld (some 6) (.var 6)), (.ld (some 6) (.var 5)), (.ld (some 6) (.var 4))])
       (.seq
        (.store 6 (.var 12) (.var 7) [])
       (.seq
        (.store 6 (.var 13) (.var 9) [])
       (.store 6 (.var 14) (.var 11) [])))))))
      (.alt
       (.seq
        (.new (some 13) 27 (.const (.agg #[(.int .u16 0), (.int .u16 0), (.int .u16 0), (.int .u16 0), (.bool false), (.bool false)])) [(.ld (some 6) (.var 6)), (.ld (some 6) (.var 5)), (.ld (some 6) (.var 4))])
       (.alt
        (.seq
         (.call (some 11) 6 [(.var 10)] [(.ld (some 6) (.var 6)), (.ld (some 6) (.var 5)), (.ld (some 6) (.var 4))])
        (.seq
         (.new (some 14) 27 (.const (.agg #[(.int .u16 0), (.int .u16 0), (.int .u16 0), (.int .u16 0), (.bool false), (.bool false)])) [(.ld (some 6) (.var 6)), (.ld (some 6) (.var 5)), (.ld (some 6) (.var 4))])
        (.seq
         (.store 6 (.var 12) (.var 7) [])
        (.seq
         (.store 6 (.var 13) (.var 9) [])
        (.store 6 (.var 14) (.var 11) [])))))
       (.seq
        (.new (some 14) 27 (.const (.agg #[(.int .u16 0), (.int .u16 0), (.int .u16 0), (.int .u16 0), (.bool false), (.bool false)])) [(.ld (some 6) (.var 6)), (.ld (some 6) (.var 5)), (.ld (some 6) (.var 4))])
       (.seq
        (.call (some 11) 6 [(.var 10)] [])
       (.seq
        (.store 6 (.var 12) (.var 7) [])
       (.seq
        (.store 6 (.var 13) (.var 9) [])
       (.store 6 (.var 14) (.var 11) [])))))))
      (.seq
       (.new (some 14) 27 (.const (.agg #[(.int .u16 0), (.int .u16 0), (.int .u16 0), (.int .u16 0), (.bool false), (.bool false)])) [(.ld (some 6) (.var 6)), (.ld (some 6) (.var 5)), (.ld (some 6) (.var 4))])
      (.alt
       (.seq
        (.call (some 11) 6 [(.var 10)] [(.ld (some 6) (.var 6)), (.ld (some 6) (.var 5)), (.ld (some 6) (.var 4))])
       (.seq
        (.new (some 13) 27 (.const (.agg #[(.int .u16 0), (.int .u16 0), (.int .u16 0), (.int .u16 0), (.bool false), (.bool false)])) [(.ld (some 6) (.var 6)), (.ld (some 6) (.var 5)), (.ld (some 6) (.var 4))])
       (.seq
        (.store 6 (.var 12) (.var 7) [])
       (.seq
        (.store 6 (.var 13) (.var 9) [])
       (.store 6 (.var 14) (.var 11) [])))))
      (.seq
       (.new (some 13) 27 (.const (.agg #[(.int .u16 0), (.int .u16 0), (.int .u16 0), (.int .u16 0), (.bool false), (.bool false)])) [(.ld (some 6) (.var 6)), (.ld (some 6) (.var 5)), (.ld (some 6) (.var 4))])
      (.seq
       (.call (some 11) 6 [(.var 10)] [])
      (.seq
       (.store 6 (.var 12) (.var 7) [])
      (.seq
       (.store 6 (.var 13) (.var 9) [])
      (.store 6 (.var 14) (.var 11) []))))))))))
     (.alt
      (.seq
       (.new (some 13) 27 (.const (.agg #[(.int .u16 0), (.int .u16 0), (.int .u16 0), (.int .u16 0), (.bool false), (.bool false)])) [(.ld (some 6) (.var 6)), (.ld (some 6) (.var 5)), (.ld (some 6) (.var 4))])
      (.alt
       (.seq
        (.call (some 9) 6 [(.var 8)] [(.ld (some 6) (.var 6)), (.ld (some 6) (.var 5)), (.ld (some 6) (.var 4))])
       (.alt
        (.seq
         (.call (some 11) 6 [(.var 10)] [(.ld (some 6) (.var 6)), (.ld (some 6) (.var 5)), (.ld (some 6) (.var 4))])
        (.seq
         (.new (some 14) 27 (.const (.agg #[(.int .u16 0), (.int .u16 0), (.int .u16 0), (.int .u16 0), (.bool false), (.bool false)])) [(.ld (some 6) (.var 6)), (.ld (some 6) (.var 5)), (.ld (some 6) (.var 4))])
        (.seq
         (.store 6 (.var 12) (.var 7) [])
        (.seq
         (.store 6 (.var 13) (.var 9) [])
        (.store 6 (.var 14) (.var 11) [])))))
       (.seq
        (.new (some 14) 27 (.const (.agg #[(.int .u16 0), (.int .u16 0), (.int .u16 0), (.int .u16 0), (.bool false), (.bool false)])) [(.ld (some 6) (.var 6)), (.ld (some 6) (.var 5)), (.ld (some 6) (.var 4))])
       (.seq
        (.call (some 11) 6 [(.var 10)] [])
       (.seq
        (.store 6 (.var 12) (.var 7) [])
       (.seq
        (.store 6 (.var 13) (.var 9) [])
       (.store 6 (.var 14) (.var 11) [])))))))
      (.seq
       (.new (some 14) 27 (.const (.agg #[(.int .u16 0), (.int .u16 0), (.int .u16 0), (.int .u16 0), (.bool false), (.bool false)])) [(.ld (some 6) (.var 6)), (.ld (some 6) (.var 5)), (.ld (some 6) (.var 4))])
      (.seq
       (.call (some 9) 6 [(.var 8)] [(.ld (some 6) (.var 6))])
      (.seq
       (.call (some 11) 6 [(.var 10)] [])
      (.seq
       (.store 6 (.var 12) (.var 7) [])
      (.seq
       (.store 6 (.var 13) (.var 9) [])
      (.store 6 (.var 14) (.var 11) []))))))))
     (.seq
      (.new (some 14) 27 (.const (.agg #[(.int .u16 0), (.int .u16 0), (.int .u16 0), (.int .u16 0), (.bool false), (.bool false)])) [(.ld (some 6) (.var 6)), (.ld (some 6) (.var 5)), (.ld (some 6) (.var 4))])
     (.alt
      (.seq
       (.call (some 9) 6 [(.var 8)] [(.ld (some 6) (.var 6)), (.ld (some 6) (.var 5)), (.ld (some 6) (.var 4))])
      (.alt
       (.seq
        (.call (some 11) 6 [(.var 10)] [(.ld (some 6) (.var 6)), (.ld (some 6) (.var 5)), (.ld (some 6) (.var 4))])
       (.seq
        (.new (some 13) 27 (.const (.agg #[(.int .u16 0), (.int .u16 0), (.int .u16 0), (.int .u16 0), (.bool false), (.bool false)])) [(.ld (some 6) (.var 6)), (.ld (some 6) (.var 5)), (.ld (some 6) (.var 4))])
       (.seq
        (.store 6 (.var 12) (.var 7) [])
       (.seq
        (.store 6 (.var 13) (.var 9) [])
       (.store 6 (.var 14) (.var 11) [])))))
      (.seq
       (.new (some 13) 27 (.const (.agg #[(.int .u16 0), (.int .u16 0), (.int .u16 0), (.int .u16 0), (.bool false), (.bool false)])) [(.ld (some 6) (.var 6)), (.ld (some 6) (.var 5)), (.ld (some 6) (.var 4))])
      (.seq
       (.call (some 11) 6 [(.var 10)] [])
      (.seq
       (.store 6 (.var 12) (.var 7) [])
      (.seq
       (.store 6 (.var 13) (.var 9) [])
      (.store 6 (.var 14) (.var 11) [])))))))
     (.seq
      (.new (some 13) 27 (.const (.agg #[(.int .u16 0), (.int .u16 0), (.int .u16 0), (.int .u16 0), (.bool false), (.bool false)])) [(.ld (some 6) (.var 6)), (.ld (some 6) (.var 5)), (.ld (some 6) (.var 4))])
     (.seq
      (.call (some 9) 6 [(.var 8)] [(.ld (some 6) (.var 6))])
     (.seq
      (.call (some 11) 6 [(.var 10)] [])
     (.seq
      (.store 6 (.var 12) (.var 7) [])
     (.seq
      (.store 6 (.var 13) (.var 9) [])
     (.store 6 (.var 14) (.var 11) [])))))))))))
    (.alt
     (.seq
      (.new (some 13) 27 (.const (.agg #[(.int .u16 0), (.int .u16 0), (.int .u16 0), (.int .u16 0), (.bool false), (.bool false)])) [(.ld (some 6) (.var 6)), (.ld (some 6) (.var 5)), (.ld (some 6) (.var 4))])
     (.alt
      (.seq
       (.call (some 7) 6 [(.var 15)] [(.ld (some 6) (.var 6)), (.ld (some 6) (.var 5)), (.ld (some 6) (.var 4))])
      (.alt
       (.seq
        (.call (some 9) 6 [(.var 8)] [(.ld (some 6) (.var 6)), (.ld (some 6) (.var 5)), (.ld (some 6) (.var 4))])
       (.alt
        (.seq
         (.call (some 11) 6 [(.var 10)] [(.ld (some 6) (.var 6)), (.ld (some 6) (.var 5)), (.ld (some 6) (.var 4))])
        (.seq
         (.new (some 14) 27 (.const (.agg #[(.int .u16 0), (.int .u16 0), (.int .u16 0), (.int .u16 0), (.bool false), (.bool false)])) [(.ld (some 6) (.var 6)), (.ld (some 6) (.var 5)), (.ld (some 6) (.var 4))])
        (.seq
         (.store 6 (.var 12) (.var 7) [])
        (.seq
         (.store 6 (.var 13) (.var 9) [])
        (.store 6 (.var 14) (.var 11) [])))))
       (.seq
        (.new (some 14) 27 (.const (.agg #[(.int .u16 0), (.int .u16 0), (.int .u16 0), (.int .u16 0), (.bool false), (.bool false)])) [(.ld (some 6) (.var 6)), (.ld (some 6) (.var 5)), (.ld (some 6) (.var 4))])
       (.seq
        (.call (some 11) 6 [(.var 10)] [])
       (.seq
        (.store 6 (.var 12) (.var 7) [])
       (.seq
        (.store 6 (.var 13) (.var 9) [])
       (.store 6 (.var 14) (.var 11) [])))))))
      (.seq
       (.new (some 14) 27 (.const (.agg #[(.int .u16 0), (.int .u16 0), (.int .u16 0), (.int .u16 0), (.bool false), (.bool false)])) [(.ld (some 6) (.var 6)), (.ld (some 6) (.var 5)), (.ld (some 6) (.var 4))])
      (.seq
       (.call (some 9) 6 [(.var 8)] [(.ld (some 6) (.var 6))])
      (.seq
       (.call (some 11) 6 [(.var 10)] [])
      (.seq
       (.store 6 (.var 12) (.var 7) [])
      (.seq
       (.store 6 (.var 13) (.var 9) [])
      (.store 6 (.var 14) (.var 11) []))))))))
     (.seq
      (.new (some 14) 27 (.const (.agg #[(.int .u16 0), (.int .u16 0), (.int .u16 0), (.int .u16 0), (.bool false), (.bool false)])) [(.ld (some 6) (.var 6)), (.ld (some 6) (.var 5)), (.ld (some 6) (.var 4))])
     (.seq
      (.call (some 7) 6 [(.var 15)] [(.ld (some 6) (.var 6)), (.ld (some 6) (.var 5))])
     (.seq
      (.call (some 9) 6 [(.var 8)] [(.ld (some 6) (.var 6))])
     (.seq
      (.call (some 11) 6 [(.var 10)] [])
     (.seq
      (.store 6 (.var 12) (.var 7) [])
     (.seq
      (.store 6 (.var 13) (.var 9) [])
     (.store 6 (.var 14) (.var 11) [])))))))))
    (.seq
     (.new (some 14) 27 (.const (.agg #[(.int .u16 0), (.int .u16 0), (.int .u16 0), (.int .u16 0), (.bool false), (.bool false)])) [(.ld (some 6) (.var 6)), (.ld (some 6) (.var 5)), (.ld (some 6) (.var 4))])
    (.alt
     (.seq
      (.call (some 7) 6 [(.var 15)] [(.ld (some 6) (.var 6)), (.ld (some 6) (.var 5)), (.ld (some 6) (.var 4))])
     (.alt
      (.seq
       (.call (some 9) 6 [(.var 8)] [(.ld (some 6) (.var 6)), (.ld (some 6) (.var 5)), (.ld (some 6) (.var 4))])
      (.alt
       (.seq
        (.call (some 11) 6 [(.var 10)] [(.ld (some 6) (.var 6)), (.ld (some 6) (.var 5)), (.ld (some 6) (.var 4))])
       (.seq
        (.new (some 13) 27 (.const (.agg #[(.int .u16 0), (.int .u16 0), (.int .u16 0), (.int .u16 0), (.bool false), (.bool false)])) [(.ld (some 6) (.var 6)), (.ld (some 6) (.var 5)), (.ld (some 6) (.var 4))])
       (.seq
        (.store 6 (.var 12) (.var 7) [])
       (.seq
        (.store 6 (.var 13) (.var 9) [])
       (.store 6 (.var 14) (.var 11) [])))))
      (.seq
       (.new (some 13) 27 (.const (.agg #[(.int .u16 0), (.int .u16 0), (.int .u16 0), (.int .u16 0), (.bool false), (.bool false)])) [(.ld (some 6) (.var 6)), (.ld (some 6) (.var 5)), (.ld (some 6) (.var 4))])
      (.seq
       (.call (some 11) 6 [(.var 10)] [])
      (.seq
       (.store 6 (.var 12) (.var 7) [])
      (.seq
       (.store 6 (.var 13) (.var 9) [])
      (.store 6 (.var 14) (.var 11) [])))))))
     (.seq
      (.new (some 13) 27 (.const (.agg #[(.int .u16 0), (.int .u16 0), (.int .u16 0), (.int .u16 0), (.bool false), (.bool false)])) [(.ld (some 6) (.var 6)), (.ld (some 6) (.var 5)), (.ld (some 6) (.var 4))])
     (.seq
      (.call (some 9) 6 [(.var 8)] [(.ld (some 6) (.var 6))])
     (.seq
      (.call (some 11) 6 [(.var 10)] [])
     (.seq
      (.store 6 (.var 12) (.var 7) [])
     (.seq
      (.store 6 (.var 13) (.var 9) [])
     (.store 6 (.var 14) (.var 11) []))))))))
    (.seq
     (.new (some 13) 27 (.const (.agg #[(.int .u16 0), (.int .u16 0), (.int .u16 0), (.int .u16 0), (.bool false), (.bool false)])) [(.ld (some 6) (.var 6)), (.ld (some 6) (.var 5)), (.ld (some 6) (.var 4))])
    (.seq
     (.call (some 7) 6 [(.var 15)] [(.ld (some 6) (.var 6)), (.ld (some 6) (.var 5))])
    (.seq
     (.call (some 9) 6 [(.var 8)] [(.ld (some 6) (.var 6))])
    (.seq
     (.call (some 11) 6 [(.var 10)] [])
    (.seq
     (.store 6 (.var 12) (.var 7) [])
    (.seq
     (.store 6 (.var 13) (.var 9) [])
    (.store 6 (.var 14) (.var 11) []))))))))))))
   (.alt
    (.seq
     (.new (some 13) 27 (.const (.agg #[(.int .u16 0), (.int .u16 0), (.int .u16 0), (.int .u16 0), (.bool false), (.bool false)])) [(.ld (some 6) (.var 6)), (.ld (some 6) (.var 5)), (.ld (some 6) (.var 4))])
    (.alt
     (.seq
      (.call (some 7) 6 [(.var 15)] [(.ld (some 6) (.var 6)), (.ld (some 6) (.var 5)), (.ld (some 6) (.var 4))])
     (.alt
      (.seq
       (.call (some 9) 6 [(.var 8)] [(.ld (some 6) (.var 6)), (.ld (some 6) (.var 5)), (.ld (some 6) (.var 4))])
      (.alt
       (.seq
        (.call (some 11) 6 [(.var 10)] [(.ld (some 6) (.var 6)), (.ld (some 6) (.var 5)), (.ld (some 6) (.var 4))])
       (.alt
        (.seq
         (.new (some 12) 27 (.const (.agg #[(.int .u16 0), (.int .u16 0), (.int .u16 0), (.int .u16 0), (.bool false), (.bool false)])) [(.ld (some 6) (.var 6)), (.ld (some 6) (.var 5)), (.ld (some 6) (.var 4))])
        (.seq
         (.new (some 14) 27 (.const (.agg #[(.int .u16 0), (.int .u16 0), (.int .u16 0), (.int .u16 0), (.bool false), (.bool false)])) [(.ld (some 6) (.var 6)), (.ld (some 6) (.var 5)), (.ld (some 6) (.var 4))])
        (.seq
         (.store 6 (.var 12) (.var 7) [])
        (.seq
         (.store 6 (.var 13) (.var 9) [])
        (.store 6 (.var 14) (.var 11) [])))))
       (.seq
        (.new (some 14) 27 (.const (.agg #[(.int .u16 0), (.int .u16 0), (.int .u16 0), (.int .u16 0), (.bool false), (.bool false)])) [(.ld (some 6) (.var 6)), (.ld (some 6) (.var 5)), (.ld (some 6) (.var 4))])
       (.seq
        (.new (some 12) 27 (.const (.agg #[(.int .u16 0), (.int .u16 0), (.int .u16 0), (.int .u16 0), (.bool false), (.bool false)])) [(.ld (some 6) (.var 6)), (.ld (some 6) (.var 5)), (.ld (some 6) (.var 4))])
       (.seq
        (.store 6 (.var 12) (.var 7) [])
       (.seq
        (.store 6 (.var 13) (.var 9) [])
       (.store 6 (.var 14) (.var 11) [])))))))
      (.alt
       (.seq
        (.new (some 12) 27 (.const (.agg #[(.int .u16 0), (.int .u16 0), (.int .u16 0), (.int .u16 0), (.bool false), (.bool false)])) [(.ld (some 6) (.var 6)), (.ld (some 6) (.var 5)), (.ld (some 6) (.var 4))])
       (.alt
        (.seq
         (.call (some 11) 6 [(.var 10)] [(.ld (some 6) (.var 6)), (.ld (some 6) (.var 5)), (.ld (some 6) (.var 4))])
        (.seq
         (.new (some 14) 27 (.const (.agg #[(.int .u16 0), (.int .u16 0), (.int .u16 0), (.int .u16 0), (.bool false), (.bool false)])) [(.ld (some 6) (.var 6)), (.ld (some 6) (.var 5)), (.ld (some 6) (.var 4))])
        (.seq
         (.store 6 (.var 12) (.var 7) [])
        (.seq
         (.store 6 (.var 13) (.var 9) [])
        (.store 6 (.var 14) (.var 11) [])))))
       (.seq
        (.new (some 14) 27 (.const (.agg #[(.int .u16 0), (.int .u16 0), (.int .u16 0), (.int .u16 0), (.bool false), (.bool false)])) [(.ld (some 6) (.var 6)), (.ld (some 6) (.var 5)), (.ld (some 6) (.var 4))])
       (.seq
        (.call (some 11) 6 [(.var 10)] [])
       (.seq
        (.store 6 (.var 12) (.var 7) [])
       (.seq
        (.store 6 (.var 13) (.var 9) [])
       (.store 6 (.var 14) (.var 11) [])))))))
      (.seq
       (.new (some 14) 27 (.const (.agg #[(.int .u16 0), (.int .u16 0), (.int .u16 0), (.int .u16 0), (.bool false), (.bool false)])) [(.ld (some 6) (.var 6)), (.ld (some 6) (.var 5)), (.ld (some 6) (.var 4))])
      (.alt
       (.seq
        (.call (some 11) 6 [(.var 10)] [(.ld (some 6) (.var 6)), (.ld (some 6) (.var 5)), (.ld (some 6) (.var 4))])
       (.seq
        (.new (some 12) 27 (.const (.agg #[(.int .u16 0), (.int .u16 0), (.int .u16 0), (.int .u16 0), (.bool false), (.bool false)])) [(.ld (some 6) (.var 6)), (.ld (some 6) (.var 5)), (.ld (some 6) (.var 4))])
       (.seq
        (.store 6 (.var 12) (.var 7) [])
       (.seq
        (.store 6 (.var 13) (.var 9) [])
       (.store 6 (.var 14) (.var 11) [])))))
      (.seq
       (.new (some 12) 27 (.const (.agg #[(.int .u16 0), (.int .u16 0), (.int .u16 0), (.int .u16 0), (.bool false), (.bool false)])) [(.ld (some 6) (.var 6)), (.ld (some 6) (.var 5)), (.ld (some 6) (.var 4))])
      (.seq
       (.call (some 11) 6 [(.var 10)] [])
      (.seq
       (.store 6 (.var 12) (.var 7) [])
      (.seq
       (.store 6 (.var 13) (.var 9) [])
      (.store 6 (.var 14) (.var 11) []))))))))))
     (.alt
      (.seq
       (.new (some 12) 27 (.const (.agg #[(.int .u16 0), (.int .u16 0), (.int .u16 0), (.int .u16 0), (.bool false), (.bool false)])) [(.ld (some 6) (.var 6)), (.ld (some 6) (.var 5)), (.ld (some 6) (.var 4))])
      (.alt
       (.seq
        (.call (some 9) 6 [(.var 8)] [(.ld (some 6) (.var 6)), (.ld (some 6) (.var 5)), (.ld (some 6) (.var 4))])
       (.alt
        (.seq
         (.call (some 11) 6 [(.var 10)] [(.ld (some 6) (.var 6)), (.ld (some 6) (.var 5)), (.ld (some 6) (.var 4))])
        (.seq
         (.new (some 14) 27 (.const (.agg #[(.int .u16 0), (.int .u16 0), (.int .u16 0), (.int .u16 0), (.bool false), (.bool false)])) [(.ld (some 6) (.var 6)), (.ld (some 6) (.var 5)), (.ld (some 6) (.var 4))])
        (.seq
         (.store 6 (.var 12) (.var 7) [])
        (.seq
         (.store 6 (.var 13) (.var 9) [])
        (.store 6 (.var 14) (.var 11) [])))))
       (.seq
        (.new (some 14) 27 (.const (.agg #[(.int .u16 0), (.int .u16 0), (.int .u16 0), (.int .u16 0), (.bool false), (.bool false)])) [(.ld (some 6) (.var 6)), (.ld (some 6) (.var 5)), (.ld (some 6) (.var 4))])
       (.seq
        (.call (some 11) 6 [(.var 10)] [])
       (.seq
        (.store 6 (.var 12) (.var 7) [])
       (.seq
        (.store 6 (.var 13) (.var 9) [])
       (.store 6 (.var 14) (.var 11) [])))))))
      (.seq
       (.new (some 14) 27 (.const (.agg #[(.int .u16 0), (.int .u16 0), (.int .u16 0), (.int .u16 0), (.bool false), (.bool false)])) [(.ld (some 6) (.var 6)), (.ld (some 6) (.var 5)), (.ld (some 6) (.var 4))])
      (.seq
       (.call (some 9) 6 [(.var 8)] [(.ld (some 6) (.var 6))])
      (.seq
       (.call (some 11) 6 [(.var 10)] [])
      (.seq
       (.store 6 (.var 12) (.var 7) [])
      (.seq
       (.store 6 (.var 13) (.var 9) [])
      (.store 6 (.var 14) (.var 11) []))))))))
     (.seq
      (.new (some 14) 27 (.const (.agg #[(.int .u16 0), (.int .u16 0), (.int .u16 0), (.int .u16 0), (.bool false), (.bool false)])) [(.ld (some 6) (.var 6)), (.ld (some 6) (.var 5)), (.ld (some 6) (.var 4))])
     (.alt
      (.seq
       (.call (some 9) 6 [(.var 8)] [(.ld (some 6) (.var 6)), (.ld (some 6) (.var 5)), (.ld (some 6) (.var 4))])
      (.alt
       (.seq
        (.call (some 11) 6 [(.var 10)] [(.ld (some 6) (.var 6)), (.ld (some 6) (.var 5)), (.ld (some 6) (.var 4))])
       (.seq
        (.new (some 12) 27 (.const (.agg #[(.int .u16 0), (.int .u16 0), (.int .u16 0), (.int .u16 0), (.bool false), (.bool false)])) [(.ld (some 6) (.var 6)), (.ld (some 6) (.var 5)), (.ld (some 6) (.var 4))])
       (.seq
        (.store 6 (.var 12) (.var 7) [])
       (.seq
        (.store 6 (.var 13) (.var 9) [])
       (.store 6 (.var 14) (.var 11) [])))))
      (.seq
       (.new (some 12) 27 (.const (.agg #[(.int .u16 0), (.int .u16 0), (.int .u16 0), (.int .u16 0), (.bool false), (.bool false)])) [(.ld (some 6) (.var 6)), (.ld (some 6) (.var 5)), (.ld (some 6) (.var 4))])
      (.seq
       (.call (some 11) 6 [(.var 10)] [])
      (.seq
       (.store 6 (.var 12) (.var 7) [])
      (.seq
       (.store 6 (.var 13) (.var 9) [])
      (.store 6 (.var 14) (.var 11) [])))))))
     (.seq
      (.new (some 12) 27 (.const (.agg #[(.int .u16 0), (.int .u16 0), (.int .u16 0), (.int .u16 0), (.bool false), (.bool false)])) [(.ld (some 6) (.var 6)), (.ld (some 6) (.var 5)), (.ld (some 6) (.var 4))])
     (.seq
      (.call (some 9) 6 [(.var 8)] [(.ld (some 6) (.var 6))])
     (.seq
      (.call (some 11) 6 [(.var 10)] [])
     (.seq
      (.store 6 (.var 12) (.var 7) [])
     (.seq
      (.store 6 (.var 13) (.var 9) [])
     (.store 6 (.var 14) (.var 11) [])))))))))))
    (.alt
     (.seq
      (.new (some 12) 27 (.const (.agg #[(.int .u16 0), (.int .u16 0), (.int .u16 0), (.int .u16 0), (.bool false), (.bool false)])) [(.ld (some 6) (.var 6)), (.ld (some 6) (.var 5)), (.ld (some 6) (.var 4))])
     (.alt
      (.seq
       (.call (some 7) 6 [(.var 15)] [(.ld (some 6) (.var 6)), (.ld (some 6) (.var 5)), (.ld (some 6) (.var 4))])
      (.alt
       (.seq
        (.call (some 9) 6 [(.var 8)] [(.ld (some 6) (.var 6)), (.ld (some 6) (.var 5)), (.ld (some 6) (.var 4))])
       (.alt
        (.seq
         (.call (some 11) 6 [(.var 10)] [(.ld (some 6) (.var 6)), (.ld (some 6) (.var 5)), (.ld (some 6) (.var 4))])
        (.seq
         (.new (some 14) 27 (.const (.agg #[(.int .u16 0), (.int .u16 0), (.int .u16 0), (.int .u16 0), (.bool false), (.bool false)])) [(.ld (some 6) (.var 6)), (.ld (some 6) (.var 5)), (.ld (some 6) (.var 4))])
        (.seq
         (.store 6 (.var 12) (.var 7) [])
        (.seq
         (.store 6 (.var 13) (.var 9) [])
        (.store 6 (.var 14) (.var 11) [])))))
       (.seq
        (.new (some 14) 27 (.const (.agg #[(.int .u16 0), (.int .u16 0), (.int .u16 0), (.int .u16 0), (.bool false), (.bool false)])) [(.ld (some 6) (.var 6)), (.ld (some 6) (.var 5)), (.ld (some 6) (.var 4))])
       (.seq
        (.call (some 11) 6 [(.var 10)] [])
       (.seq
        (.store 6 (.var 12) (.var 7) [])
       (.seq
        (.store 6 (.var 13) (.var 9) [])
       (.store 6 (.var 14) (.var 11) [])))))))
      (.seq
       (.new (some 14) 27 (.const (.agg #[(.int .u16 0), (.int .u16 0), (.int .u16 0), (.int .u16 0), (.bool false), (.bool false)])) [(.ld (some 6) (.var 6)), (.ld (some 6) (.var 5)), (.ld (some 6) (.var 4))])
      (.seq
       (.call (some 9) 6 [(.var 8)] [(.ld (some 6) (.var 6))])
      (.seq
       (.call (some 11) 6 [(.var 10)] [])
      (.seq
       (.store 6 (.var 12) (.var 7) [])
      (.seq
       (.store 6 (.var 13) (.var 9) [])
      (.store 6 (.var 14) (.var 11) []))))))))
     (.seq
      (.new (some 14) 27 (.const (.agg #[(.int .u16 0), (.int .u16 0), (.int .u16 0), (.int .u16 0), (.bool false), (.bool false)])) [(.ld (some 6) (.var 6)), (.ld (some 6) (.var 5)), (.ld (some 6) (.var 4))])
     (.seq
      (.call (some 7) 6 [(.var 15)] [(.ld (some 6) (.var 6)), (.ld (some 6) (.var 5))])
     (.seq
      (.call (some 9) 6 [(.var 8)] [(.ld (some 6) (.var 6))])
     (.seq
      (.call (some 11) 6 [(.var 10)] [])
     (.seq
      (.store 6 (.var 12) (.var 7) [])
     (.seq
      (.store 6 (.var 13) (.var 9) [])
     (.store 6 (.var 14) (.var 11) [])))))))))
    (.seq
     (.new (some 14) 27 (.const (.agg #[(.int .u16 0), (.int .u16 0), (.int .u16 0), (.int .u16 0), (.bool false), (.bool false)])) [(.ld (some 6) (.var 6)), (.ld (some 6) (.var 5)), (.ld (some 6) (.var 4))])
    (.alt
     (.seq
      (.call (some 7) 6 [(.var 15)] [(.ld (some 6) (.var 6)), (.ld (some 6) (.var 5)), (.ld (some 6) (.var 4))])
     (.alt
      (.seq
       (.call (some 9) 6 [(.var 8)] [(.ld (some 6) (.var 6)), (.ld (some 6) (.var 5)), (.ld (some 6) (.var 4))])
      (.alt
       (.seq
        (.call (some 11) 6 [(.var 10)] [(.ld (some 6) (.var 6)), (.ld (some 6) (.var 5)), (.ld (some 6) (.var 4))])
       (.seq
        (.new (some 12) 27 (.const (.agg #[(.int .u16 0), (.int .u16 0), (.int .u16 0), (.int .u16 0), (.bool false), (.bool false)])) [(.ld (some 6) (.var 6)), (.ld (some 6) (.var 5)), (.ld (some 6) (.var 4))])
       (.seq
        (.store 6 (.var 12) (.var 7) [])
       (.seq
        (.store 6 (.var 13) (.var 9) [])
       (.store 6 (.var 14) (.var 11) [])))))
      (.seq
       (.new (some 12) 27 (.const (.agg #[(.int .u16 0), (.int .u16 0), (.int .u16 0), (.int .u16 0), (.bool false), (.bool false)])) [(.ld (some 6) (.var 6)), (.ld (some 6) (.var 5)), (.ld (some 6) (.var 4))])
      (.seq
       (.call (some 11) 6 [(.var 10)] [])
      (.seq
       (.store 6 (.var 12) (.var 7) [])
      (.seq
       (.store 6 (.var 13) (.var 9) [])
      (.store 6 (.var 14) (.var 11) [])))))))
     (.seq
      (.new (some 12) 27 (.const (.agg #[(.int .u16 0), (.int .u16 0), (.int .u16 0), (.int .u16 0), (.bool false), (.bool false)])) [(.ld (some 6) (.var 6)), (.ld (some 6) (.var 5)), (.ld (some 6) (.var 4))])
     (.seq
      (.call (some 9) 6 [(.var 8)] [(.ld (some 6) (.var 6))])
     (.seq
      (.call (some 11) 6 [(.var 10)] [])
     (.seq
      (.store 6 (.var 12) (.var 7) [])
     (.seq
      (.store 6 (.var 13) (.var 9) [])
     (.store 6 (.var 14) (.var 11) []))))))))
    (.seq
     (.new (some 12) 27 (.const (.agg #[(.int .u16 0), (.int .u16 0), (.int .u16 0), (.int .u16 0), (.bool false), (.bool false)])) [(.ld (some 6) (.var 6)), (.ld (some 6) (.var 5)), (.ld (some 6) (.var 4))])
    (.seq
     (.call (some 7) 6 [(.var 15)] [(.ld (some 6) (.var 6)), (.ld (some 6) (.var 5))])
    (.seq
     (.call (some 9) 6 [(.var 8)] [(.ld (some 6) (.var 6))])
    (.seq
     (.call (some 11) 6 [(.var 10)] [])
    (.seq
     (.store 6 (.var 12) (.var 7) [])
    (.seq
     (.store 6 (.var 13) (.var 9) [])
    (.store 6 (.var 14) (.var 11) []))))))))))))
   (.seq
    (.new (some 14) 27 (.const (.agg #[(.int .u16 0), (.int .u16 0), (.int .u16 0), (.int .u16 0), (.bool false), (.bool false)])) [(.ld (some 6) (.var 6)), (.ld (some 6) (.var 5)), (.ld (some 6) (.var 4))])
   (.alt
    (.seq
     (.call (some 7) 6 [(.var 15)] [(.ld (some 6) (.var 6)), (.ld (some 6) (.var 5)), (.ld (some 6) (.var 4))])
    (.alt
     (.seq
      (.call (some 9) 6 [(.var 8)] [(.ld (some 6) (.var 6)), (.ld (some 6) (.var 5)), (.ld (some 6) (.var 4))])
     (.alt
      (.seq
       (.call (some 11) 6 [(.var 10)] [(.ld (some 6) (.var 6)), (.ld (some 6) (.var 5)), (.ld (some 6) (.var 4))])
      (.alt
       (.seq
        (.new (some 12) 27 (.const (.agg #[(.int .u16 0), (.int .u16 0), (.int .u16 0), (.int .u16 0), (.bool false), (.bool false)])) [(.ld (some 6) (.var 6)), (.ld (some 6) (.var 5)), (.ld (some 6) (.var 4))])
       (.seq
        (.new (some 13) 27 (.const (.agg #[(.int .u16 0), (.int .u16 0), (.int .u16 0), (.int .u16 0), (.bool false), (.bool false)])) [(.ld (some 6) (.var 6)), (.ld (some 6) (.var 5)), (.ld (some 6) (.var 4))])
       (.seq
        (.store 6 (.var 12) (.var 7) [])
       (.seq
        (.store 6 (.var 13) (.var 9) [])
       (.store 6 (.var 14) (.var 11) [])))))
      (.seq
       (.new (some 13) 27 (.const (.agg #[(.int .u16 0), (.int .u16 0), (.int .u16 0), (.int .u16 0), (.bool false), (.bool false)])) [(.ld (some 6) (.var 6)), (.ld (some 6) (.var 5)), (.ld (some 6) (.var 4))])
      (.seq
       (.new (some 12) 27 (.const (.agg #[(.int .u16 0), (.int .u16 0), (.int .u16 0), (.int .u16 0), (.bool false), (.bool false)])) [(.ld (some 6) (.var 6)), (.ld (some 6) (.var 5)), (.ld (some 6) (.var 4))])
      (.seq
       (.store 6 (.var 12) (.var 7) [])
      (.seq
       (.store 6 (.var 13) (.var 9) [])
      (.store 6 (.var 14) (.var 11) [])))))))
     (.alt
      (.seq
       (.new (some 12) 27 (.const (.agg #[(.int .u16 0), (.int .u16 0), (.int .u16 0), (.int .u16 0), (.bool false), (.bool false)])) [(.ld (some 6) (.var 6)), (.ld (some 6) (.var 5)), (.ld (some 6) (.var 4))])
      (.alt
       (.seq
        (.call (some 11) 6 [(.var 10)] [(.ld (some 6) (.var 6)), (.ld (some 6) (.var 5)), (.ld (some 6) (.var 4))])
       (.seq
        (.new (some 13) 27 (.const (.agg #[(.int .u16 0), (.int .u16 0), (.int .u16 0), (.int .u16 0), (.bool false), (.bool false)])) [(.ld (some 6) (.var 6)), (.ld (some 6) (.var 5)), (.ld (some 6) (.var 4))])
       (.seq
        (.store 6 (.var 12) (.var 7) [])
       (.seq
        (.store 6 (.var 13) (.var 9) [])
       (.store 6 (.var 14) (.var 11) [])))))
      (.seq
       (.new (some 13) 27 (.const (.agg #[(.int .u16 0), (.int .u16 0), (.int .u16 0), (.int .u16 0), (.bool false), (.bool false)])) [(.ld (some 6) (.var 6)), (.ld (some 6) (.var 5)), (.ld (some 6) (.var 4))])
      (.seq
       (.call (some 11) 6 [(.var 10)] [])
      (.seq
       (.store 6 (.var 12) (.var 7) [])
      (.seq
       (.store 6 (.var 13) (.var 9) [])
      (.store 6 (.var 14) (.var 11) [])))))))
     (.seq
      (.new (some 13) 27 (.const (.agg #[(.int .u16 0), (.int .u16 0), (.int .u16 0), (.int .u16 0), (.bool false), (.bool false)])) [(.ld (some 6) (.var 6)), (.ld (some 6) (.var 5)), (.ld (some 6) (.var 4))])
     (.alt
      (.seq
       (.call (some 11) 6 [(.var 10)] [(.ld (some 6) (.var 6)), (.ld (some 6) (.var 5)), (.ld (some 6) (.var 4))])
      (.seq
       (.new (some 12) 27 (.const (.agg #[(.int .u16 0), (.int .u16 0), (.int .u16 0), (.int .u16 0), (.bool false), (.bool false)])) [(.ld (some 6) (.var 6)), (.ld (some 6) (.var 5)), (.ld (some 6) (.var 4))])
      (.seq
       (.store 6 (.var 12) (.var 7) [])
      (.seq
       (.store 6 (.var 13) (.var 9) [])
      (.store 6 (.var 14) (.var 11) [])))))
     (.seq
      (.new (some 12) 27 (.const (.agg #[(.int .u16 0), (.int .u16 0), (.int .u16 0), (.int .u16 0), (.bool false), (.bool false)])) [(.ld (some 6) (.var 6)), (.ld (some 6) (.var 5)), (.ld (some 6) (.var 4))])
     (.seq
      (.call (some 11) 6 [(.var 10)] [])
     (.seq
      (.store 6 (.var 12) (.var 7) [])
     (.seq
      (.store 6 (.var 13) (.var 9) [])
     (.store 6 (.var 14) (.var 11) []))))))))))
    (.alt
     (.seq
      (.new (some 12) 27 (.const (.agg #[(.int .u16 0), (.int .u16 0), (.int .u16 0), (.int .u16 0), (.bool false), (.bool false)])) [(.ld (some 6) (.var 6)), (.ld (some 6) (.var 5)), (.ld (some 6) (.var 4))])
     (.alt
      (.seq
       (.call (some 9) 6 [(.var 8)] [(.ld (some 6) (.var 6)), (.ld (some 6) (.var 5)), (.ld (some 6) (.var 4))])
      (.alt
       (.seq
        (.call (some 11) 6 [(.var 10)] [(.ld (some 6) (.var 6)), (.ld (some 6) (.var 5)), (.ld (some 6) (.var 4))])
       (.seq
        (.new (some 13) 27 (.const (.agg #[(.int .u16 0), (.int .u16 0), (.int .u16 0), (.int .u16 0), (.bool false), (.bool false)])) [(.ld (some 6) (.var 6)), (.ld (some 6) (.var 5)), (.ld (some 6) (.var 4))])
       (.seq
        (.store 6 (.var 12) (.var 7) [])
       (.seq
        (.store 6 (.var 13) (.var 9) [])
       (.store 6 (.var 14) (.var 11) [])))))
      (.seq
       (.new (some 13) 27 (.const (.agg #[(.int .u16 0), (.int .u16 0), (.int .u16 0), (.int .u16 0), (.bool false), (.bool false)])) [(.ld (some 6) (.var 6)), (.ld (some 6) (.var 5)), (.ld (some 6) (.var 4))])
      (.seq
       (.call (some 11) 6 [(.var 10)] [])
      (.seq
       (.store 6 (.var 12) (.var 7) [])
      (.seq
       (.store 6 (.var 13) (.var 9) [])
      (.store 6 (.var 14) (.var 11) [])))))))
     (.seq
      (.new (some 13) 27 (.const (.agg #[(.int .u16 0), (.int .u16 0), (.int .u16 0), (.int .u16 0), (.bool false), (.bool false)])) [(.ld (some 6) (.var 6)), (.ld (some 6) (.var 5)), (.ld (some 6) (.var 4))])
     (.seq
      (.call (some 9) 6 [(.var 8)] [(.ld (some 6) (.var 6))])
     (.seq
      (.call (some 11) 6 [(.var 10)] [])
     (.seq
      (.store 6 (.var 12) (.var 7) [])
     (.seq
      (.store 6 (.var 13) (.var 9) [])
     (.store 6 (.var 14) (.var 11) []))))))))
    (.seq
     (.new (some 13) 27 (.const (.agg #[(.int .u16 0), (.int .u16 0), (.int .u16 0), (.int .u16 0), (.bool false), (.bool false)])) [(.ld (some 6) (.var 6)), (.ld (some 6) (.var 5)), (.ld (some 6) (.var 4))])
    (.alt
     (.seq
      (.call (some 9) 6 [(.var 8)] [(.ld (some 6) (.var 6)), (.ld (some 6) (.var 5)), (.ld (some 6) (.var 4))])
     (.alt
      (.seq
       (.call (some 11) 6 [(.var 10)] [(.ld (some 6) (.var 6)), (.ld (some 6) (.var 5)), (.ld (some 6) (.var 4))])
      (.seq
       (.new (some 12) 27 (.const (.agg #[(.int .u16 0), (.int .u16 0), (.int .u16 0), (.int .u16 0), (.bool false), (.bool false)])) [(.ld (some 6) (.var 6)), (.ld (some 6) (.var 5)), (.ld (some 6) (.var 4))])
      (.seq
       (.store 6 (.var 12) (.var 7) [])
      (.seq
       (.store 6 (.var 13) (.var 9) [])
      (.store 6 (.var 14) (.var 11) [])))))
     (.seq
      (.new (some 12) 27 (.const (.agg #[(.int .u16 0), (.int .u16 0), (.int .u16 0), (.int .u16 0), (.bool false), (.bool false)])) [(.ld (some 6) (.var 6)), (.ld (some 6) (.var 5)), (.ld (some 6) (.var 4))])
     (.seq
      (.call (some 11) 6 [(.var 10)] [])
     (.seq
      (.store 6 (.var 12) (.var 7) [])
     (.seq
      (.store 6 (.var 13) (.var 9) [])
     (.store 6 (.var 14) (.var 11) [])))))))
    (.seq
     (.new (some 12) 27 (.const (.agg #[(.int .u16 0), (.int .u16 0), (.int .u16 0), (.int .u16 0), (.bool false), (.bool false)])) [(.ld (some 6) (.var 6)), (.ld (some 6) (.var 5)), (.ld (some 6) (.var 4))])
    (.seq
     (.call (some 9) 6 [(.var 8)] [(.ld (some 6) (.var 6))])
    (.seq
     (.call (some 11) 6 [(.var 10)] [])
    (.seq
     (.store 6 (.var 12) (.var 7) [])
    (.seq
     (.store 6 (.var 13) (.var 9) [])
    (.store 6 (.var 14) (.var 11) [])))))))))))
   (.alt
    (.seq
     (.new (some 12) 27 (.const (.agg #[(.int .u16 0), (.int .u16 0), (.int .u16 0), (.int .u16 0), (.bool false), (.bool false)])) [(.ld (some 6) (.var 6)), (.ld (some 6) (.var 5)), (.ld (some 6) (.var 4))])
    (.alt
     (.seq
      (.call (some 7) 6 [(.var 15)] [(.ld (some 6) (.var 6)), (.ld (some 6) (.var 5)), (.ld (some 6) (.var 4))])
     (.alt
      (.seq
       (.call (some 9) 6 [(.var 8)] [(.ld (some 6) (.var 6)), (.ld (some 6) (.var 5)), (.ld (some 6) (.var 4))])
      (.alt
       (.seq
        (.call (some 11) 6 [(.var 10)] [(.ld (some 6) (.var 6)), (.ld (some 6) (.var 5)), (.ld (some 6) (.var 4))])
       (.seq
        (.new (some 13) 27 (.const (.agg #[(.int .u16 0), (.int .u16 0), (.int .u16 0), (.int .u16 0), (.bool false), (.bool false)])) [(.ld (some 6) (.var 6)), (.ld (some 6) (.var 5)), (.ld (some 6) (.var 4))])
       (.seq
        (.store 6 (.var 12) (.var 7) [])
       (.seq
        (.store 6 (.var 13) (.var 9) [])
       (.store 6 (.var 14) (.var 11) [])))))
      (.seq
       (.new (some 13) 27 (.const (.agg #[(.int .u16 0), (.int .u16 0), (.int .u16 0), (.int .u16 0), (.bool false), (.bool false)])) [(.ld (some 6) (.var 6)), (.ld (some 6) (.var 5)), (.ld (some 6) (.var 4))])
      (.seq
       (.call (some 11) 6 [(.var 10)] [])
      (.seq
       (.store 6 (.var 12) (.var 7) [])
      (.seq
       (.store 6 (.var 13) (.var 9) [])
      (.store 6 (.var 14) (.var 11) [])))))))
     (.seq
      (.new (some 13) 27 (.const (.agg #[(.int .u16 0), (.int .u16 0), (.int .u16 0), (.int .u16 0), (.bool false), (.bool false)])) [(.ld (some 6) (.var 6)), (.ld (some 6) (.var 5)), (.ld (some 6) (.var 4))])
     (.seq
      (.call (some 9) 6 [(.var 8)] [(.ld (some 6) (.var 6))])
     (.seq
      (.call (some 11) 6 [(.var 10)] [])
     (.seq
      (.store 6 (.var 12) (.var 7) [])
     (.seq
      (.store 6 (.var 13) (.var 9) [])
     (.store 6 (.var 14) (.var 11) []))))))))
    (.seq
     (.new (some 13) 27 (.const (.agg #[(.int .u16 0), (.int .u16 0), (.int .u16 0), (.int .u16 0), (.bool false), (.bool false)])) [(.ld (some 6) (.var 6)), (.ld (some 6) (.var 5)), (.ld (some 6) (.var 4))])
    (.seq
     (.call (some 7) 6 [(.var 15)] [(.ld (some 6) (.var 6)), (.ld (some 6) (.var 5))])
    (.seq
     (.call (some 9) 6 [(.var 8)] [(.ld (some 6) (.var 6))])
    (.seq
     (.call (some 11) 6 [(.var 10)] [])
    (.seq
     (.store 6 (.var 12) (.var 7) [])
    (.seq
     (.store 6 (.var 13) (.var 9) [])
    (.store 6 (.var 14) (.var 11) [])))))))))
   (.seq
    (.new (some 13) 27 (.const (.agg #[(.int .u16 0), (.int .u16 0), (.int .u16 0), (.int .u16 0), (.bool false), (.bool false)])) [(.ld (some 6) (.var 6)), (.ld (some 6) (.var 5)), (.ld (some 6) (.var 4))])
   (.alt
    (.seq
     (.call (some 7) 6 [(.var 15)] [(.ld (some 6) (.var 6)), (.ld (some 6) (.var 5)), (.ld (some 6) (.var 4))])
    (.alt
     (.seq
      (.call (some 9) 6 [(.var 8)] [(.ld (some 6) (.var 6)), (.ld (some 6) (.var 5)), (.ld (some 6) (.var 4))])
     (.alt
      (.seq
       (.call (some 11) 6 [(.var 10)] [(.ld (some 6) (.var 6)), (.ld (some 6) (.var 5)), (.ld (some 6) (.var 4))])
      (.seq
       (.new (some 12) 27 (.const (.agg #[(.int .u16 0), (.int .u16 0), (.int .u16 0), (.int .u16 0), (.bool false), (.bool false)])) [(.ld (some 6) (.var 6)), (.ld (some 6) (.var 5)), (.ld (some 6) (.var 4))])
      (.seq
       (.store 6 (.var 12) (.var 7) [])
      (.seq
       (.store 6 (.var 13) (.var 9) [])
      (.store 6 (.var 14) (.var 11) [])))))
     (.seq
      (.new (some 12) 27 (.const (.agg #[(.int .u16 0), (.int .u16 0), (.int .u16 0), (.int .u16 0), (.bool false), (.bool false)])) [(.ld (some 6) (.var 6)), (.ld (some 6) (.var 5)), (.ld (some 6) (.var 4))])
     (.seq
      (.call (some 11) 6 [(.var 10)] [])
     (.seq
      (.store 6 (.var 12) (.var 7) [])
     (.seq
      (.store 6 (.var 13) (.var 9) [])
     (.store 6 (.var 14) (.var 11) [])))))))
    (.seq
     (.new (some 12) 27 (.const (.agg #[(.int .u16 0), (.int .u16 0), (.int .u16 0), (.int .u16 0), (.bool false), (.bool false)])) [(.ld (some 6) (.var 6)), (.ld (some 6) (.var 5)), (.ld (some 6) (.var 4))])
    (.seq
     (.call (some 9) 6 [(.var 8)] [(.ld (some 6) (.var 6))])
    (.seq
     (.call (some 11) 6 [(.var 10)] [])
    (.seq
     (.store 6 (.var 12) (.var 7) [])
    (.seq
     (.store 6 (.var 13) (.var 9) [])
    (.store 6 (.var 14) (.var 11) []))))))))
   (.seq
    (.new (some 12) 27 (.const (.agg #[(.int .u16 0), (.int .u16 0), (.int .u16 0), (.int .u16 0), (.bool false), (.bool false)])) [(.ld (some 6) (.var 6)), (.ld (some 6) (.var 5)), (.ld (some 6) (.var 4))])
   (.seq
    (.call (some 7) 6 [(.var 15)] [(.ld (some 6) (.var 6)), (.ld (some 6) (.var 5))])
   (.seq
    (.call (some 9) 6 [(.var 8)] [(.ld (some 6) (.var 6))])
   (.seq
    (.call (some 11) 6 [(.var 10)] [])
   (.seq
    (.store 6 (.var 12) (.var 7) [])
   (.seq
    (.store 6 (.var 13) (.var 9) [])
   (.store 6 (.var 14) (.var 11) [])))))))))))))))))))
  (.seq
   (.seq
    .draw
   (.seq
    (.set 20 (.ld (some 6) (.var 12)))
   (.seq
    (.set 21 (.ld (some 6) (.var 13)))
   (.seq
    (.set 17 (.ld (some 6) (.var 14)))
   (.alt
    (.seq
     (.call (some 16) 31 [(.var 20), (.var 21)] [(.ld (some 6) (.var 14)), (.ld (some 6) (.var 13)), (.ld (some 6) (.var 12))])
    (.alt
     (.seq
      (.call (some 18) 31 [(.var 16), (.var 17)] [(.ld (some 6) (.var 14)), (.ld (some 6) (.var 13)), (.ld (some 6) (.var 12))])
     (.seq
      (.new (some 19) 27 (.const (.agg #[(.int .u16 0), (.int .u16 0), (.int .u16 0), (.int .u16 0), (.bool false), (.bool false)])) [(.ld (some 6) (.var 14)), (.ld (some 6) (.var 13)), (.ld (some 6) (.var 12))])
     (.store 6 (.var 19) (.var 18) [])))
    (.seq
     (.new (some 19) 27 (.const (.agg #[(.int .u16 0), (.int .u16 0), (.int .u16 0), (.int .u16 0), (.bool false), (.bool false)])) [(.ld (some 6) (.var 14)), (.ld (some 6) (.var 13)), (.ld (some 6) (.var 12))])
    (.seq
     (.call (some 18) 31 [(.var 16), (.var 17)] [])
    (.store 6 (.var 19) (.var 18) [])))))
   (.seq
    (.new (some 19) 27 (.const (.agg #[(.int .u16 0), (.int .u16 0), (.int .u16 0), (.int .u16 0), (.bool false), (.bool false)])) [(.ld (some 6) (.var 14)), (.ld (some 6) (.var 13)), (.ld (some 6) (.var 12))])
   (.seq
    (.call (some 16) 31 [(.var 20), (.var 21)] [(.ld (some 6) (.var 14))])
   (.seq
    (.call (some 18) 31 [(.var 16), (.var 17)] [])
   (.store 6 (.var 19) (.var 18) [])))))))))
  (.seq
   (.seq
    (.call (some 22) 19 [] [])
   (.seq
    (.new (some 23) 27 (.const (.agg #[(.int .u16 0), (.int .u16 0), (.int .u16 0), (.int .u16 0), (.bool false), (.bool false)])) [])
   (.store 6 (.var 23) (.var 22) [])))
  (.seq
   (.seq
    .draw
   (.seq
    (.call (some 24) 8 [] [])
   (.seq
    (.cond (.pick (.var 24) (.const (.bool true)) (.const (.bool false)))
      (.set 28 (.ld (some 6) (.var 19)))
      (.clr [28]))
   (.seq
    (.cond (.pick (.var 24) (.const (.bool true)) (.const (.bool false)))
      (.set 26 (.ld (some 6) (.var 12)))
      (.clr [26]))
   (.seq
    (.chk [(.pick (.var 24) (.ld (some 6) (.var 13)) (.const (.bool false))), (.pick (.var 24) (.ld (some 6) (.var 14)) (.const (.bool false)))])
   (.seq
    (.cond (.pick (.var 24) (.const (.bool true)) (.const (.bool false)))
      (.call (some 25) 31 [(.ld (some 6) (.var 14)), (.ld (some 6) (.var 13))] [(.ld (some 6) (.var 12)), (.ld (some 6) (.var 19))])
      (.clr [25]))
   (.seq
    (.cond (.pick (.var 24) (.const (.bool true)) (.const (.bool false)))
      (.call (some 27) 31 [(.var 26), (.var 25)] [(.ld (some 6) (.var 19))])
      (.clr [27]))
   (.seq
    (.set 32 (.pick (.var 24) (.eqx false (.cons 0 none .int (.cons 1 none .int (.cons 2 none .int (.cons 3 none .int (.cons 4 none .bool (.cons 5 none .bool .nil)))))) (.var 28) (.var 27)) (.const (.bool false))))
   (.seq
    (.chk [(.pick (.var 32) (.ld (some 6) (.var 13)) (.const (.bool false))), (.pick (.var 32) (.ld (some 6) (.var 12)) (.const (.bool false)))])
   (.seq
    (.cond (.pick (.var 32) (.const (.bool true)) (.const (.bool false)))
      (.set 30 (.ld (some 6) (.var 13)))
      (.clr [30]))
   (.seq
    (.cond (.pick (.var 32) (.const (.bool true)) (.const (.bool false)))
      (.set 31 (.ld (some 6) (.var 12)))
      (.clr [31]))
   (.seq
    (.cond (.pick (.var 32) (.const (.bool true)) (.const (.bool false)))
      (.call (some 29) 31 [(.ld (some 6) (.var 12)), (.ld (some 6) (.var 13))] [(.ld (some 6) (.var 12)), (.ld (some 6) (.var 13))])
      (.clr [29]))
   (.seq
    (.cond (.pick (.var 32) (.const (.bool true)) (.const (.bool false)))
      (.call (some 33) 31 [(.var 30), (.var 31)] [])
      (.clr [33]))
   (.seq
    (.set 36 (.pick (.var 32) (.eqx false (.cons 0 none .int (.cons 1 none .int (.cons 2 none .int (.cons 3 none .int (.cons 4 none .bool (.cons 5 none .bool .nil)))))) (.var 29) (.var 33)) (.const (.bool false))))
   (.seq
    (.chk [(.pick (.var 36) (.ld (some 6) (.var 12)) (.const (.bool false)))])
   (.seq
    (.cond (.pick (.var 36) (.const (.bool true)) (.const (.bool false)))
      (.set 35 (.ld (some 6) (.var 12)))
      (.clr [35]))
   (.seq
    (.cond (.pick (.var 36) (.const (.bool true)) (.const (.bool false)))
      (.call (some 34) 31 [(.ld (some 6) (.var 12)), (.ld (some 6) (.var 12))] [(.ld (some 6) (.var 12))])
      (.clr [34]))
   (.seq
    (.set 39 (.pick (.var 36) (.eqx false (.cons 0 none .int (.cons 1 none .int (.cons 2 none .int (.cons 3 none .int (.cons 4 none .bool (.cons 5 none .bool .nil)))))) (.var 34) (.var 35)) (.const (.bool false))))
   (.seq
    (.chk [(.pick (.var 39) (.ld (some 6) (.var 23)) (.const (.bool false))), (.pick (.var 39) (.ld (some 6) (.var 12)) (.const (.bool false)))])
   (.seq
    (.cond (.pick (.var 39) (.const (.bool true)) (.const (.bool false)))
      (.set 38 (.ld (some 6) (.var 12)))
      (.clr [38]))
   (.seq
    (.cond (.pick (.var 39) (.const (.bool true)) (.const (.bool false)))
      (.set 40 (.ld (some 6) (.var 12)))
      (.clr [40]))
   (.seq
    (.cond (.pick (.var 39) (.const (.bool true)) (.const (.bool false)))
      (.set 41 (.ld (some 6) (.var 23)))
      (.clr [41]))
   (.seq
    (.cond (.pick (.var 39) (.const (.bool true)) (.const (.bool false)))
      (.call (some 37) 31 [(.ld (some 6) (.var 12)), (.ld (some 6) (.var 23))] [(.ld (some 6) (.var 23)), (.ld (some 6) (.var 12)), (.ld (some 6) (.var 12))])
      (.clr [37]))
   (.seq
    (.cond (.pick (.var 39) (.const (.bool true)) (.const (.bool false)))
      (.set 43 (.eqx false (.cons 0 none .int (.cons 1 none .int (.cons 2 none .int (.cons 3 none .int (.cons 4 none .bool (.cons 5 none .bool .nil)))))) (.var 37) (.var 38)))
      (.clr [43]))
   (.seq
    (.cond (.pick (.var 39) (.const (.bool true)) (.const (.bool false)))
      (.call (some 42) 20 [(.var 40), (.var 41)] [(.eqx false (.cons 0 none .int (.cons 1 none .int (.cons 2 none .int (.cons 3 none .int (.cons 4 none .bool (.cons 5 none .bool .nil)))))) (.var 37) (.var 38)), (.ld (some 6) (.var 12))])
      (.clr [42]))
   (.set 3 (.pick (.var 39) (.eqx false .bool (.var 43) (.var 42)) (.const (.bool false)))))))))))))))))))))))))))))
  .ret)))))
abbrev v_tipstafflaw11_RightsMeets : List Nat := [0, 1, 2, 6, 3, 4, 5, 13, 14, 15, 16, 17, 7, 8, 9, 12, 20, 21, 22, 10, 18, 19, 23, 11, 24, 30, 27, 31, 26, 37, 38, 39, 34, 40, 46, 47, 43, 53, 54, 50, 56, 57, 58, 55]
abbrev k_tipstafflaw11_RightsMeets : List (List Nat) := []
abbrev r_tipstafflaw11_RightsMeets : List Ex := [(.var 3)]
/- tipstaff/tipstafflaw11.to -/
def c_tipstafflaw11_to : Cmd :=
  (.seq
   (.seq
    (.new (some 2) 24 (.var 0) [])
   (.new (some 1) 27 (.const (.agg #[(.int .u16 0), (.int .u16 0), (.int .u16 0), (.int .u16 0), (.bool false), (.bool false)])) []))
  (.seq
   (.seq
    (.chk [(.upd 5 1 (.upd 4 1 (.upd 3 1 (.upd 2 1 (.upd 1 1 (.upd 0 1 (.const (.agg #[(.int .u16 0), (.int .u16 0), (.int .u16 0), (.int .u16 0), (.bool false), (.bool false)])) (.ld none (.offp 0 (.var 2)))) (.ld none (.offp 1 (.var 2)))) (.ld none (.offp 2 (.var 2)))) (.ld none (.offp 3 (.var 2)))) (.ld none (.offp 4 (.var 2)))) (.ld none (.offp 5 (.var 2))))])
   (.store 6 (.var 1) (.upd 5 1 (.upd 4 1 (.upd 3 1 (.upd 2 1 (.upd 1 1 (.upd 0 1 (.const (.agg #[(.int .u16 0), (.int .u16 0), (.int .u16 0), (.int .u16 0), (.bool false), (.bool false)])) (.ld none (.offp 0 (.var 2)))) (.ld none (.offp 1 (.var 2)))) (.ld none (.offp 2 (.var 2)))) (.ld none (.offp 3 (.var 2)))) (.ld none (.offp 4 (.var 2)))) (.ld none (.offp 5 (.var 2)))) []))
  .ret))
abbrev v_tipstafflaw11_to : List Nat := [0, 2, 1]
abbrev k_tipstafflaw11_to : List (List Nat) := []
abbrev r_tipstafflaw11_to : List Ex := [(.ld (some 6) (.var 1))]
theorem ok_tipstafflaw11_to : compile Tryd.prog Tryd.f6 v_tipstafflaw11_to k_tipstafflaw11_to = some (c_tipstafflaw11_to, r_tipstafflaw11_to) := by kernel_rfl

/- tipstaff/tipstafflaw11.from -/
def c_tipstafflaw11_from : Cmd :=
  (.seq
   (.seq
    (.new (some 2) 27 (.var 0) [])
   (.new (some 1) 24 (.const (.agg #[(.int .u16 0), (.int .u16 0), (.int .u16 0), (.int .u16 0), (.bool false), (.bool false)])) []))
  (.seq
   (.seq
    (.chk [(.upd 5 1 (.upd 4 1 (.upd 3 1 (.upd 2 1 (.upd 1 1 (.upd 0 1 (.const (.agg #[(.int .u16 0), (.int .u16 0), (.int .u16 0), (.int .u16 0), (.bool false), (.bool false)])) (.ld none (.offp 0 (.var 2)))) (.ld none (.offp 1 (.var 2)))) (.ld none (.offp 2 (.var 2)))) (.ld none (.offp 3 (.var 2)))) (.ld none (.offp 4 (.var 2)))) (.ld none (.offp 5 (.var 2))))])
   (.store 6 (.var 1) (.upd 5 1 (.upd 4 1 (.upd 3 1 (.upd 2 1 (.upd 1 1 (.upd 0 1 (.const (.agg #[(.int .u16 0), (.int .u16 0), (.int .u16 0), (.int .u16 0), (.bool false), (.bool false)])) (.ld none (.offp 0 (.var 2)))) (.ld none (.offp 1 (.var 2)))) (.ld none (.offp 2 (.var 2)))) (.ld none (.offp 3 (.var 2)))) (.ld none (.offp 4 (.var 2)))) (.ld none (.offp 5 (.var 2)))) []))
  .ret))
abbrev v_tipstafflaw11_from : List Nat := [0, 2, 1]
abbrev k_tipstafflaw11_from : List (List Nat) := []
abbrev r_tipstafflaw11_from : List Ex := [(.ld (some 6) (.var 1))]
theorem ok_tipstafflaw11_from : compile Tryd.prog Tryd.f10 v_tipstafflaw11_from k_tipstafflaw11_from = some (c_tipstafflaw11_from, r_tipstafflaw11_from) := by kernel_rfl

/- tipstaff/tipstafflaw11.whole -/
def c_tipstafflaw11_whole : Cmd :=
  (.seq
   (.set 0 (.const (.bool false)))
  (.seq
   (.seq
    (.call (some 1) 18 [(.const (.int .i32 87))] [])
   (.seq
    (.chk [(.proj 1 (.var 1))])
   (.seq
    (.set 2 (.proj 0 (.var 1)))
   (.set 3 (.proj 1 (.var 1))))))
  (.seq
   (.seq
    (.call (some 4) 19 [] [])
   (.seq
    (.call (some 5) 5 [(.var 4)] [])
   (.seq
    (.chk [(.pick (.pick (.pick (.bin .eql (.var 5) (.const (.string ⟨#[99, 102, 102, 32, 112, 102, 32, 109, 51, 102, 32, 104, 102, 102, 32, 112, 114, 105, 118, 105, 108, 101, 103, 101, 100]⟩))) (.bin .eql (.var 2) (.const (.int .i64 5))) (.const (.bool false))) (.var 3) (.const (.bool false))) (.const (.agg #[(.int .u16 0), (.int .u16 0), (.int .u16 0), (.int .u16 0), (.bool false), (.bool false)])) (.const (.bool false))), (.pick (.pick (.bin .eql (.var 5) (.const (.string ⟨#[99, 102, 102, 32, 112, 102, 32, 109, 51, 102, 32, 104, 102, 102, 32, 112, 114, 105, 118, 105, 108, 101, 103, 101, 100]⟩))) (.bin .eql (.var 2) (.const (.int .i64 5))) (.const (.bool false))) (.var 3) (.const (.bool false))), (.pick (.pick (.bin .eql (.var 5) (.const (.string ⟨#[99, 102, 102, 32, 112, 102, 32, 109, 51, 102, 32, 104, 102, 102, 32, 112, 114, 105, 118, 105, 108, 101, 103, 101, 100]⟩))) (.bin .eql (.var 2) (.const (.int .i64 5))) (.const (.bool false))) (.var 3) (.const (.bool false))), (.pick (.pick (.bin .eql (.var 5) (.const (.string ⟨#[99, 102, 102, 32, 112, 102, 32, 109, 51, 102, 32, 104, 102, 102, 32, 112, 114, 105, 118, 105, 108, 101, 103, 101, 100]⟩))) (.bin .eql (.var 2) (.const (.int .i64 5))) (.const (.bool false))) (.var 3) (.const (.bool false))), (.pick (.bin .eql (.var 5) (.const (.string ⟨#[99, 102, 102, 32, 112, 102, 32, 109, 51, 102, 32, 104, 102, 102, 32, 112, 114, 105, 118, 105, 108, 101, 103, 101, 100]⟩))) (.bin .eql (.var 2) (.const (.int .i64 5))) (.const (.bool false))), (.pick (.bin .eql (.var 5) (.const (.string ⟨#[99, 102, 102, 32, 112, 102, 32, 109, 51, 102, 32, 104, 102, 102, 32, 112, 114, 105, 118, 105, 108, 101, 103, 101, 100]⟩))) (.bin .eql (.var 2) (.const (.int .i64 5))) (.const (.bool false))), (.pick (.bin .eql (.var 5) (.const (.string ⟨#[99, 102, 102, 32, 112, 102, 32, 109, 51, 102, 32, 104, 102, 102, 32, 112, 114, 105, 118, 105, 108, 101, 103, 101, 100]⟩))) (.bin .eql (.var 2) (.const (.int .i64 5))) (.const (.bool false))), (.pick (.bin .eql (.var 5) (.const (.string ⟨#[99, 102, 102, 32, 112, 102, 32, 109, 51, 102, 32, 104, 102, 102, 32, 112, 114, 105, 118, 105, 108, 101, 103, 101, 100]⟩))) (.var 2) (.const (.bool false))), (.bin .eql (.var 5) (.const (.string ⟨#[99, 102, 102, 32, 112, 102, 32, 109, 51, 102, 32, 104, 102, 102, 32, 112, 114, 105, 118, 105, 108, 101, 103, 101, 100]⟩))), (.bin .eql (.var 5) (.const (.string ⟨#[99, 102, 102, 32, 112, 102, 32, 109, 51, 102, 32, 104, 102, 102, 32, 112, 114, 105, 118, 105, 108, 101, 103, 101, 100]⟩)))])
   (.seq
    (.cond (.pick (.pick (.pick (.bin .eql (.var 5) (.const (.string ⟨#[99, 102, 102, 32, 112, 102, 32, 109, 51, 102, 32, 104, 102, 102, 32, 112, 114, 105, 118, 105, 108, 101, 103, 101, 100]⟩))) (.bin .eql (.var 2) (.const (.int .i64 5))) (.const (.bool false))) (.var 3) (.const (.bool false))) (.const (.bool true)) (.const (.bool false)))
      (.call (some 6) 19 [] [])
      (.clr [6]))
   (.seq
    (.cond (.pick (.pick (.pick (.bin .eql (.var 5) (.const (.string ⟨#[99, 102, 102, 32, 112, 102, 32, 109, 51, 102, 32, 104, 102, 102, 32, 112, 114, 105, 118, 105, 108, 101, 103, 101, 100]⟩))) (.bin .eql (.var 2) (.const (.int .i64 5))) (.const (.bool false))) (.var 3) (.const (.bool false))) (.const (.bool true)) (.const (.bool false)))
      (.call (some 7) 20 [(.const (.agg #[(.int .u16 0), (.int .u16 0), (.int .u16 0), (.int .u16 0), (.bool false), (.bool false)])), (.var 6)] [])
      (.clr [7]))
   (.seq
    (.chk [(.pick (.pick (.pick (.bin .eql (.var 5) (.const (.string ⟨#[99, 102, 102, 32, 112, 102, 32, 109, 51, 102, 32, 104, 102, 102, 32, 112, 114, 105, 118, 105, 108, 101, 103, 101, 100]⟩))) (.bin .eql (.var 2) (.const (.int .i64 5))) (.const (.bool false))) (.var 3) (.const (.bool false))) (.var 7) (.const (.bool false)))])
   (.set 0 (.pick (.pick (.pick (.bin .eql (.var 5) (.const (.string ⟨#[99, 102, 102, 32, 112, 102, 32, 109, 51, 102, 32, 104, 102, 102, 32, 112, 114, 105, 118, 105, 108, 101, 103, 101, 100]⟩))) (.bin .eql (.var 2) (.const (.int .i64 5))) (.const (.bool false))) (.var 3) (.const (.bool false))) (.var 7) (.const (.bool false))))))))))
  .ret)))
abbrev v_tipstafflaw11_whole : List Nat := [0, 4, 1, 2, 7, 8, 19, 20]
abbrev k_tipstafflaw11_whole : List (List Nat) := []
abbrev r_tipstafflaw11_whole : List Ex := [(.var 0)]
theorem ok_tipstafflaw11_whole : compile Tryd.prog Tryd.f8 v_tipstafflaw11_whole k_tipstafflaw11_whole = some (c_tipstafflaw11_whole, r_tipstafflaw11_whole) := by kernel_rfl

/- tipstaff/rights.Common -/
def c_rights_Common : Cmd :=
  (.seq
   (.seq
    (.new (some 3) 27 (.var 0) [])
   (.seq
    (.new (some 4) 27 (.var 1) [])
   (.new (some 2) 27 (.const (.agg #[(.int .u16 0), (.int .u16 0), (.int .u16 0), (.int .u16 0), (.bool false), (.bool false)])) [])))
  (.seq
   (.seq
    (.chk [(.upd 5 1 (.upd 4 1 (.upd 3 1 (.upd 2 1 (.upd 1 1 (.upd 0 1 (.const (.agg #[(.int .u16 0), (.int .u16 0), (.int .u16 0), (.int .u16 0), (.bool false), (.bool false)])) (.bin .and (.ld none (.offp 0 (.var 3))) (.ld none (.offp 0 (.var 4))))) (.bin .and (.ld none (.offp 1 (.var 3))) (.ld none (.offp 1 (.var 4))))) (.bin .and (.ld none (.offp 2 (.var 3))) (.ld none (.offp 2 (.var 4))))) (.bin .and (.ld none (.offp 3 (.var 3))) (.ld none (.offp 3 (.var 4))))) (.pick (.ld none (.offp 4 (.var 3))) (.ld none (.offp 4 (.var 4))) (.const (.bool false)))) (.pick (.ld none (.offp 5 (.var 3))) (.const (.bool true)) (.ld none (.offp 5 (.var 4)))))])
   (.store 6 (.var 2) (.upd 5 1 (.upd 4 1 (.upd 3 1 (.upd 2 1 (.upd 1 1 (.upd 0 1 (.const (.agg #[(.int .u16 0), (.int .u16 0), (.int .u16 0), (.int .u16 0), (.bool false), (.bool false)])) (.bin .and (.ld none (.offp 0 (.var 3))) (.ld none (.offp 0 (.var 4))))) (.bin .and (.ld none (.offp 1 (.var 3))) (.ld none (.offp 1 (.var 4))))) (.bin .and (.ld none (.offp 2 (.var 3))) (.ld none (.offp 2 (.var 4))))) (.bin .and (.ld none (.offp 3 (.var 3))) (.ld none (.offp 3 (.var 4))))) (.pick (.ld none (.offp 4 (.var 3))) (.ld none (.offp 4 (.var 4))) (.const (.bool false)))) (.pick (.ld none (.offp 5 (.var 3))) (.const (.bool true)) (.ld none (.offp 5 (.var 4))))) []))
  .ret))
abbrev v_rights_Common : List Nat := [0, 1, 4, 2, 3]
abbrev k_rights_Common : List (List Nat) := []
abbrev r_rights_Common : List Ex := [(.ld (some 6) (.var 2))]
theorem ok_rights_Common : compile Tryd.prog Tryd.f31 v_rights_Common k_rights_Common = some (c_rights_Common, r_rights_Common) := by kernel_rfl

/- tipstaff/rights.Within -/
def c_rights_Within : Cmd :=
  (.seq
   (.seq
    (.new (some 3) 27 (.var 0) [])
   (.seq
    (.new (some 4) 27 (.var 1) [])
   (.set 2 (.const (.bool false)))))
  (.seq
   (.seq
    .draw
   (.seq
    (.chk [(.ld (some 6) (.var 4))])
   (.seq
    (.set 6 (.ld (some 6) (.var 3)))
   (.seq
    (.call (some 5) 31 [(.ld (some 6) (.var 3)), (.ld (some 6) (.var 4))] [(.ld (some 6) (.var 3))])
   (.set 2 (.eqx false (.cons 0 none .int (.cons 1 none .int (.cons 2 none .int (.cons 3 none .int (.cons 4 none .bool (.cons 5 none .bool .nil)))))) (.var 5) (.var 6)))))))
  .ret))
abbrev v_rights_Within : List Nat := [0, 1, 4, 2, 3, 7, 8]
abbrev k_rights_Within : List (List Nat) := []
abbrev r_rights_Within : List Ex := [(.var 2)]
theorem ok_rights_Within : compile Tryd.prog Tryd.f20 v_rights_Within k_rights_Within = some (c_rights_Within, r_rights_Within) := by kernel_rfl

/- tipstaff/rights.Bit -/
def c_rights_Bit : Cmd :=
  (.seq
   (.seq
    (.set 1 (.const (.int .i64 0)))
   (.set 2 (.const (.bool false))))
  (.seq
   (.seq
    (.chk [(.slArr 8 1 (.const (.pointer (some ⟨0, 0, none⟩))) (.const (.int .i64 0)) (.const (.int .i64 8)))])
   (.seq
    (.call (some 3) 30 [(.slArr 8 1 (.const (.pointer (some ⟨0, 0, none⟩))) (.const (.int .i64 0)) (.const (.int .i64 8))), (.var 0)] [])
   (.set 4 (.var 3))))
  (.seq
   (.seq
    (.chk [(.bin .geq (.var 4) (.const (.int .i64 0)))])
   (.seq
    (.set 1 (.mx (.var 4) (.const (.int .i64 0))))
   (.set 2 (.bin .geq (.var 4) (.const (.int .i64 0))))))
  .ret)))
abbrev v_rights_Bit : List Nat := [0, 2, 3, 7, 4]
abbrev k_rights_Bit : List (List Nat) := []
abbrev r_rights_Bit : List Ex := [(.var 1), (.var 2)]
theorem ok_rights_Bit : compile Tryd.prog Tryd.f18 v_rights_Bit k_rights_Bit = some (c_rights_Bit, r_rights_Bit) := by kernel_rfl

/- tipstaff/rights.All -/
def c_rights_All : Cmd :=
  (.seq
   (.new (some 0) 27 (.const (.agg #[(.int .u16 0), (.int .u16 0), (.int .u16 0), (.int .u16 0), (.bool false), (.bool false)])) [])
  (.seq
   (.seq
    (.chk [(.upd 5 1 (.upd 4 1 (.upd 3 1 (.upd 2 1 (.upd 1 1 (.upd 0 1 (.const (.agg #[(.int .u16 0), (.int .u16 0), (.int .u16 0), (.int .u16 0), (.bool false), (.bool false)])) (.const (.int .u16 255))) (.const (.int .u16 15))) (.const (.int .u16 63))) (.const (.int .u16 255))) (.const (.bool true))) (.const (.bool false)))])
   (.store 6 (.var 0) (.upd 5 1 (.upd 4 1 (.upd 3 1 (.upd 2 1 (.upd 1 1 (.upd 0 1 (.const (.agg #[(.int .u16 0), (.int .u16 0), (.int .u16 0), (.int .u16 0), (.bool false), (.bool false)])) (.const (.int .u16 255))) (.const (.int .u16 15))) (.const (.int .u16 63))) (.const (.int .u16 255))) (.const (.bool true))) (.const (.bool false))) []))
  .ret))
abbrev v_rights_All : List Nat := [0]
abbrev k_rights_All : List (List Nat) := []
abbrev r_rights_All : List Ex := [(.ld (some 6) (.var 0))]
theorem ok_rights_All : compile Tryd.prog Tryd.f19 v_rights_All k_rights_All = some (c_rights_All, r_rights_All) := by kernel_rfl

/- tipstaff/rights.Text -/
def c_rights_Text : Cmd :=
  (.seq
   (.seq
    (.new (some 2) 27 (.var 0) [])
   (.set 1 (.const (.string ⟨#[]⟩))))
  (.seq
   (.set 3 (.const (.slice none 0 0)))
  (.seq
   (.seq
    (.seq
     (.call (some 4) 12 [(.ld (some 6) (.var 2))] [])
    (.seq
     (.set 6 (.len false (.var 4)))
    (.set 5 (.const (.int .i64 0)))))
   (.block 0
     (.loop [2, 3, 4, 5, 6]
       (.seq
        (.cond (.bin .lss (.var 5) (.var 6))
          .skip
          (.exit 0))
       (.seq
        (.block 1
          (.seq
           (.seq
            (.chk [(.ld none (.ixSl 1 (.var 4) (.var 5)))])
           (.seq
            (.set 7 (.var 5))
           (.set 8 (.ld none (.ixSl 1 (.var 4) (.var 5))))))
          (.seq
           .draw
          (.seq
           (.chk [(.slStr (.const (.string ⟨#[99, 112, 109, 104]⟩)) (.var 7) (.bin .add (.var 7) (.const (.int .i64 1)))), (.var 3)])
          (.seq
           (.call (some 9) 13 [(.conv .u64 (.var 8)), (.const (.int .i64 16))] [])
          (.seq
           (.chk [(.bin .add (.slStr (.const (.string ⟨#[99, 112, 109, 104]⟩)) (.var 7) (.bin .add (.var 7) (.const (.int .i64 1)))) (.var 9))])
          (.seq
           (.row (some 10) 9 1 (.upd 0 1 (.const (.agg #[(.string ⟨#[]⟩)])) (.bin .add (.slStr (.const (.string ⟨#[99, 112, 109, 104]⟩)) (.var 7) (.bin .add (.var 7) (.const (.int .i64 1)))) (.var 9))) [])
          (.seq
           (.bi (some 11) .append [39, 39] 39 [(.var 3), (.var 10)] [])
          (.set 3 (.var 11))))))))))
       (.set 5 (.bin .add (.var 5) (.const (.int .i64 1)))))))))
  (.seq
   (.cond (.ld none (.offp 4 (.var 2)))
     (.seq
      (.chk [(.var 3)])
     (.seq
      (.row (some 12) 9 1 (.upd 0 1 (.const (.agg #[(.string ⟨#[]⟩)])) (.const (.string ⟨#[112, 114, 105, 118, 105, 108, 101, 103, 101, 100]⟩))) [])
     (.seq
      (.bi (some 13) .append [39, 39] 39 [(.var 3), (.var 12)] [])
     (.set 3 (.var 13)))))
     .skip)
  (.seq
   (.cond (.ld none (.offp 5 (.var 2)))
     (.seq
      (.chk [(.var 3)])
     (.seq
      (.row (some 14) 9 1 (.upd 0 1 (.const (.agg #[(.string ⟨#[]⟩)])) (.const (.string ⟨#[115, 105, 103, 110, 101, 100]⟩))) [])
     (.seq
      (.bi (some 15) .append [39, 39] 39 [(.var 3), (.var 14)] [])
     (.set 3 (.var 15)))))
     .skip)
  (.seq
   (.seq
    (.call (some 16) 14 [(.var 3), (.const (.string ⟨#[32]⟩))] [])
   (.set 1 (.var 16)))
  .ret))))))
abbrev v_rights_Text : List Nat := [0, 2, 1, 3, 7, 9, 8, 4, 5, 21, 23, 24, 29, 30, 34, 35, 37]
abbrev k_rights_Text : List (List Nat) := [[2, 3, 4, 5, 6]]
abbrev r_rights_Text : List Ex := [(.var 1)]
theorem ok_rights_Text : compile Tryd.prog Tryd.f5 v_rights_Text k_rights_Text = some (c_rights_Text, r_rights_Text) := by kernel_rfl

/- (tipstaff/rights.Rights).numbers -/
def c_rights_Rights_numbers : Cmd :=
  (.seq
   (.seq
    (.new (some 2) 27 (.var 0) [])
   (.set 1 (.const (.slice none 0 0))))
  (.seq
   (.seq
    (.row (some 3) 22 4 (.upd 3 1 (.upd 2 1 (.upd 1 1 (.upd 0 1 (.const (.agg (Array.replicate 4 (.int .u16 0)))) (.ld none (.offp 0 (.var 2)))) (.ld none (.offp 1 (.var 2)))) (.ld none (.offp 2 (.var 2)))) (.ld none (.offp 3 (.var 2)))) [])
   (.set 1 (.var 3)))
  .ret))
abbrev v_rights_Rights_numbers : List Nat := [0, 2, 1, 11]
abbrev k_rights_Rights_numbers : List (List Nat) := []
abbrev r_rights_Rights_numbers : List Ex := [(.var 1)]
theorem ok_rights_Rights_numbers : compile Tryd.prog Tryd.f12 v_rights_Rights_numbers k_rights_Rights_numbers = some (c_rights_Rights_numbers, r_rights_Rights_numbers) := by kernel_rfl

/- tipstaff/tipstaffref11.Within -/
def c_tipstaffref11_Within : Cmd :=
  (.seq
   (.seq
    (.new (some 3) 24 (.var 0) [])
   (.seq
    (.new (some 4) 24 (.var 1) [])
   (.set 2 (.const (.bool false)))))
  (.seq
   (.set 2 (.pick (.pick (.pick (.pick (.pick (.bin .eql (.bin .and (.ld none (.offp 0 (.var 3))) (.ld none (.offp 0 (.var 4)))) (.ld none (.offp 0 (.var 3)))) (.bin .eql (.bin .and (.ld none (.offp 1 (.var 3))) (.ld none (.offp 1 (.var 4)))) (.ld none (.offp 1 (.var 3)))) (.const (.bool false))) (.bin .eql (.bin .and (.ld none (.offp 2 (.var 3))) (.ld none (.offp 2 (.var 4)))) (.ld none (.offp 2 (.var 3)))) (.const (.bool false))) (.bin .eql (.bin .and (.ld none (.offp 3 (.var 3))) (.ld none (.offp 3 (.var 4)))) (.ld none (.offp 3 (.var 3)))) (.const (.bool false))) (.pick (.un .not (.ld none (.offp 4 (.var 3)))) (.const (.bool true)) (.ld none (.offp 4 (.var 4)))) (.const (.bool false))) (.pick (.un .not (.ld none (.offp 5 (.var 4)))) (.const (.bool true)) (.ld none (.offp 5 (.var 3)))) (.const (.bool false))))
  .ret))
abbrev v_tipstaffref11_Within : List Nat := [0, 1, 4, 2, 3]
abbrev k_tipstaffref11_Within : List (List Nat) := []
abbrev r_tipstaffref11_Within : List Ex := [(.var 2)]
/- tipstaff/tipstaffref11.Common -/
def c_tipstaffref11_Common : Cmd :=
  (.seq
   (.seq
    (.new (some 3) 24 (.var 0) [])
   (.seq
    (.new (some 4) 24 (.var 1) [])
   (.new (some 2) 24 (.const (.agg #[(.int .u16 0), (.int .u16 0), (.int .u16 0), (.int .u16 0), (.bool false), (.bool false)])) [])))
  (.seq
   (.seq
    (.chk [(.upd 5 1 (.upd 4 1 (.upd 3 1 (.upd 2 1 (.upd 1 1 (.upd 0 1 (.const (.agg #[(.int .u16 0), (.int .u16 0), (.int .u16 0), (.int .u16 0), (.bool false), (.bool false)])) (.bin .and (.ld none (.offp 0 (.var 3))) (.ld none (.offp 0 (.var 4))))) (.bin .and (.ld none (.offp 1 (.var 3))) (.ld none (.offp 1 (.var 4))))) (.bin .and (.ld none (.offp 2 (.var 3))) (.ld none (.offp 2 (.var 4))))) (.bin .and (.ld none (.offp 3 (.var 3))) (.ld none (.offp 3 (.var 4))))) (.pick (.ld none (.offp 4 (.var 3))) (.ld none (.offp 4 (.var 4))) (.const (.bool false)))) (.pick (.ld none (.offp 5 (.var 3))) (.const (.bool true)) (.ld none (.offp 5 (.var 4)))))])
   (.store 6 (.var 2) (.upd 5 1 (.upd 4 1 (.upd 3 1 (.upd 2 1 (.upd 1 1 (.upd 0 1 (.const (.agg #[(.int .u16 0), (.int .u16 0), (.int .u16 0), (.int .u16 0), (.bool false), (.bool false)])) (.bin .and (.ld none (.offp 0 (.var 3))) (.ld none (.offp 0 (.var 4))))) (.bin .and (.ld none (.offp 1 (.var 3))) (.ld none (.offp 1 (.var 4))))) (.bin .and (.ld none (.offp 2 (.var 3))) (.ld none (.offp 2 (.var 4))))) (.bin .and (.ld none (.offp 3 (.var 3))) (.ld none (.offp 3 (.var 4))))) (.pick (.ld none (.offp 4 (.var 3))) (.ld none (.offp 4 (.var 4))) (.const (.bool false)))) (.pick (.ld none (.offp 5 (.var 3))) (.const (.bool true)) (.ld none (.offp 5 (.var 4))))) []))
  .ret))
abbrev v_tipstaffref11_Common : List Nat := [0, 1, 4, 2, 3]
abbrev k_tipstaffref11_Common : List (List Nat) := []
abbrev r_tipstaffref11_Common : List Ex := [(.ld (some 6) (.var 2))]
/- slices.Index[[]int32,int32] -/
def c_slices_Index : Cmd :=
  (.seq
   (.set 2 (.const (.int .i64 0)))
  (.seq
   (.seq
    (.seq
     (.set 4 (.len false (.var 0)))
    (.set 3 (.const (.int .i64 0))))
   (.block 0
     (.loop [0, 1, 3, 4]
       (.seq
        (.cond (.bin .lss (.var 3) (.var 4))
          .skip
          (.exit 0))
       (.seq
        (.block 1
          (.seq
           (.set 5 (.var 3))
          (.cond (.bin .eql (.var 1) (.ld none (.ixSl 1 (.var 0) (.var 5))))
            (.seq
             (.set 2 (.var 5))
            .ret)
            .skip)))
       (.set 3 (.bin .add (.var 3) (.const (.int .i64 1)))))))))
  (.seq
   (.set 2 (.const (.int .i64 (-1))))
  .ret)))
abbrev v_slices_Index : List Nat := [0, 1, 4, 8, 7, 5]
abbrev k_slices_Index : List (List Nat) := [[0, 1, 3, 4]]
abbrev r_slices_Index : List Ex := [(.var 2)]
theorem ok_slices_Index : compile Tryd.prog Tryd.f30 v_slices_Index k_slices_Index = some (c_slices_Index, r_slices_Index) := by kernel_rfl

/- strconv.FormatUint -/
def c_strconv_FormatUint : Cmd :=
  (.seq
   (.set 2 (.const (.string ⟨#[]⟩)))
  (.seq
   (.seq
    (.call (some 3) 22 [(.var 0), (.var 1)] [])
   (.set 2 (.var 3)))
  .ret))
abbrev v_strconv_FormatUint : List Nat := [0, 1, 4, 7]
abbrev k_strconv_FormatUint : List (List Nat) := []
abbrev r_strconv_FormatUint : List Ex := [(.var 2)]
theorem ok_strconv_FormatUint : compile Tryd.prog Tryd.f13 v_strconv_FormatUint k_strconv_FormatUint = some (c_strconv_FormatUint, r_strconv_FormatUint) := by kernel_rfl

/- internal/strconv.FormatUint -/
def c_internal_strconv_FormatUint : Cmd :=
  (.seq
   (.set 2 (.const (.string ⟨#[]⟩)))
  (.seq
   (.cond (.bin .eql (.var 1) (.const (.int .i64 10)))
     (.seq
      (.cond (.bin .lss (.var 0) (.const (.int .u64 100)))
        (.seq
         (.seq
          (.call (some 3) 32 [(.conv .i64 (.var 0))] [])
         (.set 2 (.var 3)))
        .ret)
        .skip)
     (.seq
      (.new (some 4) 73 (.const (.agg (Array.replicate 24 (.int .u8 0)))) [])
     (.seq
      (.seq
       (.call (some 5) 33 [(.var 0)] [])
      (.set 6 (.var 5)))
     (.seq
      (.call none 34 [(.slArr 24 1 (.var 4) (.const (.int .i64 0)) (.var 6)), (.var 0)] [])
     (.seq
      (.set 2 (.bstr (.slArr 24 1 (.var 4) (.const (.int .i64 0)) (.var 6))))
     .ret)))))
     .skip)
  (.seq
   (.seq
    (.call (some 7) 35 [(.const (.slice none 0 0)), (.var 0), (.var 1), (.const (.bool false)), (.const (.bool false))] [])
   (.seq
    (.chk [(.proj 1 (.var 7))])
   (.seq
    (.set 8 (.proj 0 (.var 7)))
   (.set 9 (.proj 1 (.var 7))))))
  (.seq
   (.set 2 (.var 9))
  .ret))))
abbrev v_internal_strconv_FormatUint : List Nat := [0, 1, 4, 15, 5, 17, 6, 28, 7, 8]
abbrev k_internal_strconv_FormatUint : List (List Nat) := []
abbrev r_internal_strconv_FormatUint : List Ex := [(.var 2)]
theorem ok_internal_strconv_FormatUint : compile Tryd.prog Tryd.f22 v_internal_strconv_FormatUint k_internal_strconv_FormatUint = some (c_internal_strconv_FormatUint, r_internal_strconv_FormatUint) := by kernel_rfl

/- internal/strconv.formatBits -/
def c_internal_strconv_formatBits : Cmd :=
  (.seq
   (.seq
    (.set 5 (.const (.slice none 0 0)))
   (.set 6 (.const (.string ⟨#[]⟩))))
  (.seq
   (.cond (.pick (.pick (.bin .lss (.var 2) (.const (.int .i64 2))) (.const (.bool true)) (.bin .eql (.var 2) (.const (.int .i64 10)))) (.const (.bool true)) (.bin .gtr (.var 2) (.const (.int .i64 36))))
     (.seq
      (.chk [(.mkif 9 (.const (.string ⟨#[115, 116, 114, 99, 111, 110, 118, 58, 32, 105, 108, 108, 101, 103, 97, 108, 32, 65, 112, 112, 101, 110, 100, 73, 110, 116, 47, 70, 111, 114, 109, 97, 116, 73, 110, 116, 32, 98, 97, 115, 101]⟩)))])
     .die)
     .skip)
  (.seq
   (.new (some 7) 91 (.const (.agg (Array.replicate 65 (.int .u8 0)))) [])
  (.seq
   (.set 8 (.const (.int .i64 65)))
  (.seq
   (.cond (.var 3)
     (.set 1 (.un .neg (.var 1)))
     .skip)
  (.seq
   (.seq
    (.call (some 9) 50 [(.var 2)] [])
   (.cond (.var 9)
     (.seq
      (.seq
       (.call (some 10) 51 [(.conv .u64 (.var 2))] [])
      (.set 11 (.conv .u64 (.var 10))))
     (.seq
      (.set 12 (.conv .u64 (.var 2)))
     (.seq
      (.set 13 (.bin .sub (.conv .u64 (.var 2)) (.const (.int .u64 1))))
     (.seq
      (.block 0
        (.loop [0, 1, 3, 4, 5, 6, 7, 8, 11, 12, 13]
          (.seq
           (.cond (.bin .geq (.var 1) (.var 12))
             .skip
             (.exit 0))
          (.block 1
            (.seq
             (.set 8 (.bin .sub (.var 8) (.const (.int .i64 1))))
            (.seq
             (.seq
              (.chk [(.idxStr (.const (.string ⟨#[48, 49, 50, 51, 52, 53, 54, 55, 56, 57, 97, 98, 99, 100, 101, 102, 103, 104, 105, 106, 107, 108, 109, 110, 111, 112, 113, 114, 115, 116, 117, 118, 119, 120, 121, 122]⟩)) (.bin .and (.var 1) (.var 13)))])
             (.store 1 (.ixArr 65 1 (.var 7) (.var 8)) (.idxStr (.const (.string ⟨#[48, 49, 50, 51, 52, 53, 54, 55, 56, 57, 97, 98, 99, 100, 101, 102, 103, 104, 105, 106, 107, 108, 109, 110, 111, 112, 113, 114, 115, 116, 117, 118, 119, 120, 121, 122]⟩)) (.bin .and (.var 1) (.var 13))) []))
            (.set 1 (.bin .shr (.var 1) (.var 11)))))))))
     (.seq
      (.set 8 (.bin .sub (.var 8) (.const (.int .i64 1))))
     (.seq
      (.chk [(.idxStr (.const (.string ⟨#[48, 49, 50, 51, 52, 53, 54, 55, 56, 57, 97, 98, 99, 100, 101, 102, 103, 104, 105, 106, 107, 108, 109, 110, 111, 112, 113, 114, 115, 116, 117, 118, 119, 120, 121, 122]⟩)) (.var 1))])
     (.store 1 (.ixArr 65 1 (.var 7) (.var 8)) (.idxStr (.const (.string ⟨#[48, 49, 50, 51, 52, 53, 54, 55, 56, 57, 97, 98, 99, 100, 101, 102, 103, 104, 105, 106, 107, 108, 109, 110, 111, 112, 113, 114, 115, 116, 117, 118, 119, 120, 121, 122]⟩)) (.var 1)) [])))))))
     (.seq
      (.set 14 (.conv .u64 (.var 2)))
     (.seq
      (.block 2
        (.loop [0, 1, 3, 4, 5, 6, 7, 8, 14]
          (.seq
           (.cond (.bin .geq (.var 1) (.var 14))
             .skip
             (.exit 2))
          (.block 3
            (.seq
             (.set 8 (.bin .sub (.var 8) (.const (.int .i64 1))))
            (.seq
             (.set 15 (.bin .quo (.var 1) (.var 14)))
            (.seq
             (.seq
              (.chk [(.idxStr (.const (.string ⟨#[48, 49, 50, 51, 52, 53, 54, 55, 56, 57, 97, 98, 99, 100, 101, 102, 103, 104, 105, 106, 107, 108, 109, 110, 111, 112, 113, 114, 115, 116, 117, 118, 119, 120, 121, 122]⟩)) (.bin .sub (.var 1) (.bin .mul (.var 15) (.var 14))))])
             (.store 1 (.ixArr 65 1 (.var 7) (.var 8)) (.idxStr (.const (.string ⟨#[48, 49, 50, 51, 52, 53, 54, 55, 56, 57, 97, 98, 99, 100, 101, 102, 103, 104, 105, 106, 107, 108, 109, 110, 111, 112, 113, 114, 115, 116, 117, 118, 119, 120, 121, 122]⟩)) (.bin .sub (.var 1) (.bin .mul (.var 15) (.var 14)))) []))
            (.set 1 (.var 15)))))))))
     (.seq
      (.set 8 (.bin .sub (.var 8) (.const (.int .i64 1))))
     (.seq
      (.chk [(.idxStr (.const (.string ⟨#[48, 49, 50, 51, 52, 53, 54, 55, 56, 57, 97, 98, 99, 100, 101, 102, 103, 104, 105, 106, 107, 108, 109, 110, 111, 112, 113, 114, 115, 116, 117, 118, 119, 120, 121, 122]⟩)) (.var 1))])
     (.store 1 (.ixArr 65 1 (.var 7) (.var 8)) (.idxStr (.const (.string ⟨#[48, 49, 50, 51, 52, 53, 54, 55, 56, 57, 97, 98, 99, 100, 101, 102, 103, 104, 105, 106, 107, 108, 109, 110, 111, 112, 113, 114, 115, 116, 117, 118, 119, 120, 121, 122]⟩)) (.var 1)) [])))))))
  (.seq
   (.cond (.var 3)
     (.seq
      (.set 8 (.bin .sub (.var 8) (.const (.int .i64 1))))
     (.store 1 (.ixArr 65 1 (.var 7) (.var 8)) (.const (.int .u8 45)) []))
     .skip)
  (.seq
   (.cond (.var 4)
     (.seq
      (.seq
       (.bi (some 16) .append [58, 58] 58 [(.var 0), (.slArr 65 1 (.var 7) (.var 8) (.const (.int .i64 65)))] [])
      (.set 5 (.var 16)))
     .ret)
     .skip)
  (.seq
   (.set 6 (.bstr (.slArr 65 1 (.var 7) (.var 8) (.const (.int .i64 65)))))
  .ret)))))))))
abbrev v_internal_strconv_formatBits : List Nat := [0, 1, 2, 3, 4, 10, 11, 12, 13, 34, 37, 14, 15, 16, 17, 18, 98]
abbrev k_internal_strconv_formatBits : List (List Nat) := [[0, 1, 3, 4, 5, 6, 7, 8, 11, 12, 13], [0, 1, 3, 4, 5, 6, 7, 8, 14]]
abbrev r_internal_strconv_formatBits : List Ex := [(.var 5), (.var 6)]
theorem ok_internal_strconv_formatBits : compile Tryd.prog Tryd.f35 v_internal_strconv_formatBits k_internal_strconv_formatBits = some (c_internal_strconv_formatBits, r_internal_strconv_formatBits) := by kernel_rfl

/- internal/strconv.isPowerOfTwo -/
def c_internal_strconv_isPowerOfTwo : Cmd :=
  (.seq
   (.set 1 (.const (.bool false)))
  (.seq
   (.set 1 (.bin .eql (.bin .and (.var 0) (.bin .sub (.var 0) (.const (.int .i64 1)))) (.const (.int .i64 0))))
  .ret))
abbrev v_internal_strconv_isPowerOfTwo : List Nat := [0, 2]
abbrev k_internal_strconv_isPowerOfTwo : List (List Nat) := []
abbrev r_internal_strconv_isPowerOfTwo : List Ex := [(.var 1)]
theorem ok_internal_strconv_isPowerOfTwo : compile Tryd.prog Tryd.f50 v_internal_strconv_isPowerOfTwo k_internal_strconv_isPowerOfTwo = some (c_internal_strconv_isPowerOfTwo, r_internal_strconv_isPowerOfTwo) := by kernel_rfl

/- math/bits.TrailingZeros -/
def c_math_bits_TrailingZeros : Cmd :=
  (.seq
   (.set 1 (.const (.int .i64 0)))
  (.seq
   (.cond (.const (.bool false))
     (.seq
      (.seq
       (.call (some 2) 61 [(.conv .u32 (.var 0))] [])
      (.set 1 (.var 2)))
     .ret)
     .skip)
  (.seq
   (.seq
    (.call (some 3) 62 [(.var 0)] [])
   (.set 1 (.var 3)))
  .ret)))
abbrev v_math_bits_TrailingZeros : List Nat := [0, 2, 5, 7]
abbrev k_math_bits_TrailingZeros : List (List Nat) := []
abbrev r_math_bits_TrailingZeros : List Ex := [(.var 1)]
theorem ok_math_bits_TrailingZeros : compile Tryd.prog Tryd.f51 v_math_bits_TrailingZeros k_math_bits_TrailingZeros = some (c_math_bits_TrailingZeros, r_math_bits_TrailingZeros) := by kernel_rfl

/- math/bits.TrailingZeros64 -/
def c_math_bits_TrailingZeros64 : Cmd :=
  (.seq
   (.set 1 (.const (.int .i64 0)))
  (.seq
   (.cond (.bin .eql (.var 0) (.const (.int .u64 0)))
     (.seq
      (.set 1 (.const (.int .i64 64)))
     .ret)
     .skip)
  (.seq
   (.seq
    (.chk [(.conv .i64 (.ld none (.ixArr 64 1 (.const (.pointer (some ⟨6, 0, none⟩))) (.bin .shr (.bin .mul (.bin .and (.var 0) (.un .neg (.var 0))) (.const (.int .u64 285870213051353865))) (.const (.int .u64 58)))))), (.ld none (.ixArr 64 1 (.const (.pointer (some ⟨6, 0, none⟩))) (.bin .shr (.bin .mul (.bin .and (.var 0) (.un .neg (.var 0))) (.const (.int .u64 285870213051353865))) (.const (.int .u64 58))))), (.ixArr 64 1 (.const (.pointer (some ⟨6, 0, none⟩))) (.bin .shr (.bin .mul (.bin .and (.var 0) (.un .neg (.var 0))) (.const (.int .u64 285870213051353865))) (.const (.int .u64 58))))])
   (.set 1 (.conv .i64 (.ld none (.ixArr 64 1 (.const (.pointer (some ⟨6, 0, none⟩))) (.bin .shr (.bin .mul (.bin .and (.var 0) (.un .neg (.var 0))) (.const (.int .u64 285870213051353865))) (.const (.int .u64 58))))))))
  .ret)))
abbrev v_math_bits_TrailingZeros64 : List Nat := [0, 2]
abbrev k_math_bits_TrailingZeros64 : List (List Nat) := []
abbrev r_math_bits_TrailingZeros64 : List Ex := [(.var 1)]
theorem ok_math_bits_TrailingZeros64 : compile Tryd.prog Tryd.f62 v_math_bits_TrailingZeros64 k_math_bits_TrailingZeros64 = some (c_math_bits_TrailingZeros64, r_math_bits_TrailingZeros64) := by kernel_rfl
end Go.Proofs.YtaaicadjoghbcaaDoor
