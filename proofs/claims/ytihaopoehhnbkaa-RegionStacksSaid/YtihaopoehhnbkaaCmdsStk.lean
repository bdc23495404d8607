/- Commands of functions, and that they are what the code comes to. -/
import Derived.Test.YtihaopoehhnbkaaEngK
import Derived.Test.YtihaopoehhnbkaaRows
namespace Go.Proofs.Ytihaopoehhnbkaa
open Go.Eng
/- tipstaff/tipstafflaw19.RegionStacks -/
def c_tipstafflaw19_RegionStacks : Cmd :=
  (.seq
   (.set 1 (.const (.bool false)))
  (.seq
   (.seq
    (.call (some 2) 19 [] [])
   (.seq
    (.call (some 3) 16 [(.var 2), (.const (.agg #[(.int .i64 0), (.int .u64 0), (.int .i64 0), (.pointer none)])), (.const (.int .i64 0)), (.const (.int .i64 1))] [])
   (.seq
    (.chk [(.proj 1 (.var 3)), (.proj 0 (.var 3))])
   (.seq
    (.new (some 4) 29 (.const (.agg #[(.int .i64 0), (.int .u64 0), (.int .i64 0), (.pointer none)])) [])
   (.seq
    (.store 4 (.var 4) (.proj 0 (.var 3)) [])
   (.set 5 (.proj 1 (.var 3))))))))
  (.seq
   (.seq
    (.call (some 6) 19 [] [])
   (.seq
    (.call (some 7) 18 [(.var 6), (.const (.agg #[(.int .i64 0), (.int .u64 0), (.int .i64 0), (.pointer none)])), (.const (.int .i64 0))] [])
   (.seq
    (.chk [(.proj 1 (.var 7))])
   (.seq
    (.set 8 (.proj 0 (.var 7)))
   (.set 9 (.proj 1 (.var 7)))))))
  (.seq
   (.seq
    (.seq
     (.call (some 10) 14 [] [])
    (.seq
     (.cond (.pick (.pick (.pick (.un .not (.var 10)) (.const (.bool true)) (.bin .neq (.var 5) (.const (.int .i64 14)))) (.const (.bool true)) (.bin .neq (.var 9) (.const (.int .i64 14)))) (.const (.bool false)) (.const (.bool true)))
       (.call (some 11) 19 [] [])
       (.clr [11]))
    (.seq
     (.cond (.pick (.pick (.pick (.un .not (.var 10)) (.const (.bool true)) (.bin .neq (.var 5) (.const (.int .i64 14)))) (.const (.bool true)) (.bin .neq (.var 9) (.const (.int .i64 14)))) (.const (.bool false)) (.const (.bool true)))
       (.call (some 12) 15 [(.var 11), (.const (.agg #[(.int .i64 0), (.int .u64 0), (.int .i64 0), (.pointer none)])), (.const (.int .i64 0)), (.const (.int .i64 1)), (.const (.agg #[(.int .i64 0), (.int .u64 0), (.int .i64 0), (.pointer none)]))] [])
       (.clr [12]))
    (.seq
     (.cond (.pick (.pick (.pick (.pick (.un .not (.var 10)) (.const (.bool true)) (.bin .neq (.var 5) (.const (.int .i64 14)))) (.const (.bool true)) (.bin .neq (.var 9) (.const (.int .i64 14)))) (.const (.bool true)) (.bin .neq (.var 12) (.const (.int .i64 14)))) (.const (.bool false)) (.const (.bool true)))
       (.call (some 13) 19 [] [])
       (.clr [13]))
    (.seq
     (.cond (.pick (.pick (.pick (.pick (.un .not (.var 10)) (.const (.bool true)) (.bin .neq (.var 5) (.const (.int .i64 14)))) (.const (.bool true)) (.bin .neq (.var 9) (.const (.int .i64 14)))) (.const (.bool true)) (.bin .neq (.var 12) (.const (.int .i64 14)))) (.const (.bool false)) (.const (.bool true)))
       (.call (some 14) 20 [(.var 13), (.const (.agg #[(.int .i64 0), (.int .u64 0), (.int .i64 0), (.pointer none)])), (.const (.slice none 0 0))] [])
       (.clr [14]))
    (.seq
     (.cond (.pick (.pick (.pick (.pick (.pick (.un .not (.var 10)) (.const (.bool true)) (.bin .neq (.var 5) (.const (.int .i64 14)))) (.const (.bool true)) (.bin .neq (.var 9) (.const (.int .i64 14)))) (.const (.bool true)) (.bin .neq (.var 12) (.const (.int .i64 14)))) (.const (.bool true)) (.bin .neq (.var 14) (.const (.int .i64 14)))) (.const (.bool false)) (.const (.bool true)))
       (.call (some 15) 19 [] [])
       (.clr [15]))
    (.cond (.pick (.pick (.pick (.pick (.pick (.un .not (.var 10)) (.const (.bool true)) (.bin .neq (.var 5) (.const (.int .i64 14)))) (.const (.bool true)) (.bin .neq (.var 9) (.const (.int .i64 14)))) (.const (.bool true)) (.bin .neq (.var 12) (.const (.int .i64 14)))) (.const (.bool true)) (.bin .neq (.var 14) (.const (.int .i64 14)))) (.const (.bool false)) (.const (.bool true)))
      (.call (some 16) 21 [(.var 15), (.const (.int .i64 0))] [])
      (.clr [16]))))))))
   (.cond (.pick (.pick (.pick (.pick (.pick (.un .not (.var 10)) (.const (.bool true)) (.bin .neq (.var 5) (.const (.int .i64 14)))) (.const (.bool true)) (.bin .neq (.var 9) (.const (.int .i64 14)))) (.const (.bool true)) (.bin .neq (.var 12) (.const (.int .i64 14)))) (.const (.bool true)) (.bin .neq (.var 14) (.const (.int .i64 14)))) (.const (.bool true)) (.isnil 0 true (.var 16)))
     (.seq
      (.set 1 (.const (.bool false)))
     .ret)
     .skip))
  (.seq
   (.seq
    (.call (some 17) 13 [(.const (.agg (Array.replicate 32 (.int .u8 0)))), (.const (.slice none 0 0))] [])
   (.seq
    (.new (some 18) 53 (.const (.agg #[(.int .i64 0), (.int .u8 0), (.int .i64 0), (.int .u8 0), (.int .i64 0), (.int .u8 0), (.int .i64 0), (.int .u8 0), (.int .i64 0), (.int .u8 0), (.int .i64 0), (.int .u8 0), (.int .i64 0), (.int .u8 0), (.int .i64 0), (.int .u8 0), (.int .i64 0), (.int .u8 0), (.int .i64 0), (.int .u8 0), (.int .i64 0), (.int .u8 0), (.int .i64 0), (.int .u8 0), (.int .i64 0), (.int .u8 0), (.int .i64 0), (.int .u8 0), (.int .i64 0), (.int .u8 0), (.int .i64 0), (.int .u8 0), (.int .i64 0), (.int .u8 0), (.int .i64 0), (.int .u8 0), (.int .i64 0), (.int .u8 0), (.int .i64 0), (.int .u8 0), (.int .i64 0), (.int .u8 0), (.int .i64 0), (.int .u8 0), (.int .i64 0), (.int .u8 0), (.int .i64 0), (.int .u8 0), (.int .i64 0), (.int .u8 0), (.int .i64 0), (.int .u8 0), (.int .i64 0), (.int .u8 0), (.int .i64 0), (.int .u8 0), (.int .i64 0), (.int .u8 0), (.int .i64 0), (.int .u8 0), (.int .i64 0), (.int .u8 0), (.int .i64 0), (.int .u8 0), (.int .i64 0), (.int .u8 0), (.int .i64 0), (.int .u8 0), (.int .i64 0), (.int .u8 0), (.int .i64 0), (.int .u8 0), (.int .i64 0), (.int .u8 0), (.int .i64 0), (.int .u8 0), (.int .i64 0), (.int .u8 0), (.int .i64 0), (.int .u8 0), (.int .i64 0), (.int .u8 0), (.int .i64 0), (.int .u8 0), (.int .i64 0), (.int .u8 0), (.int .i64 0), (.int .u8 0), (.int .i64 0), (.int .u8 0), (.int .i64 0), (.int .u8 0), (.int .i64 0), (.int .u8 0), (.int .i64 0), (.int .u8 0), (.int .i64 0), (.int .u8 0), (.int .i64 0), (.int .u8 0), (.int .i64 0), (.int .u8 0), (.int .i64 0), (.int .u8 0), (.int .i64 0), (.int .u8 0), (.int .i64 0), (.int .u8 0), (.int .i64 0), (.int .u8 0), (.int .i64 0), (.int .u8 0), (.int .i64 0), (.int .u8 0), (.int .i64 0), (.int .u8 0), (.int .i64 0), (.int .u8 0), (.int .i64 0), (.int .u8 0), (.int .i64 0), (.int .u8 0), (.int .i64 0), (.int .u8 0), (.int .i64 0), (.int .u8 0), (.int .i64 0), (.int .u8 0), (.int .i64 0), (.int .i64 0), (.int .i64 0), (.int .i64 0), (.int .i64 0), (.int .i64 0), (.int .i64 0), (.int .i64 0)])) [])
   (.seq
    (.set 19 (.var 17))
   (.set 20 (.var 18)))))
  (.seq
   (.set 21 (.const (.slice none 0 0)))
  (.seq
   (.seq
    (.set 22 (.const (.int .i64 0)))
   (.block 0
     (.loop [0, 19, 20, 21, 22]
       (.seq
        (.cond (.pick (.bin .lss (.var 22) (.len false (.var 0))) (.bin .lss (.var 22) (.const (.int .i64 60))) (.const (.bool false)))
          .skip
          (.exit 0))
       (.seq
        (.block 1
          (.seq
           (.seq
            (.set 24 (.ld (some 6) (.ixSl 6 (.var 0) (.var 22))))
           (.seq
            (.new (some 23) 56 (.const (.agg #[(.int .i64 0), (.int .i64 0), (.int .i64 0), (.int .i64 0), (.int .u64 0), (.slice none 0 0)])) [])
           (.store 6 (.var 23) (.var 24) [])))
          (.seq
           (.set 25 (.bin .rem (.ld none (.offp 1 (.var 23))) (.const (.int .i64 70))))
          (.seq
           (.cond (.bin .eql (.bin .rem (.ld none (.offp 1 (.var 23))) (.const (.int .i64 50))) (.const (.int .i64 49)))
             (.set 25 (.ld none (.offp 1 (.var 23))))
             .skip)
          (.seq
           (.set 26 (.bin .rem (.ld none (.offp 2 (.var 23))) (.const (.int .i64 80))))
          (.seq
           (.seq
            (.set 28 (.upd 1 1 (.upd 0 1 (.const (.agg #[(.int .i64 0), (.int .u64 0), (.int .i64 0), (.pointer none)])) (.const (.int .i64 3))) (.conv .u64 (.var 25))))
           (.seq
            (.new (some 27) 29 (.const (.agg #[(.int .i64 0), (.int .u64 0), (.int .i64 0), (.pointer none)])) [])
           (.store 4 (.var 27) (.var 28) [])))
          (.seq
           (.seq
            (.call (some 29) 22 [(.ld none (.offp 3 (.var 23)))] [])
           (.set 30 (.var 29)))
          (.seq
           (.seq
            (.call (some 31) 23 [(.var 25), (.var 26), (.var 30)] [])
           (.set 32 (.var 31)))
          (.seq
           (.set 33 (.conv .i64 (.bin .rem (.conv .u64 (.ld none (.offp 0 (.var 23)))) (.const (.int .u64 5)))))
          (.block 2
            (.seq
             (.set 34 (.bin .eql (.var 33) (.const (.int .i64 0))))
            (.cond (.var 34)
              (.seq
               (.seq
                .draw
               (.seq
                (.chk [(.var 30), (.var 32), (.var 20), (.upd 1 1 (.upd 0 1 (.const (.agg #[(.int .i64 0), (.int .u64 0), (.int .i64 0), (.pointer none)])) (.const (.int .i64 1))) (.ld none (.offp 4 (.var 23)))), (.var 26), (.ld (some 4) (.var 27)), (.var 19)])
               (.seq
                (.set 36 (.ld none (.offp 4 (.var 23))))
               (.seq
                (.call (some 35) 15 [(.var 19), (.ld (some 4) (.var 27)), (.var 26), (.var 30), (.upd 1 1 (.upd 0 1 (.const (.agg #[(.int .i64 0), (.int .u64 0), (.int .i64 0), (.pointer none)])) (.const (.int .i64 1))) (.ld none (.offp 4 (.var 23))))] [(.ld none (.offp 4 (.var 23)))])
               (.seq
                (.chk [(.bin .eql (.var 35) (.const (.int .i64 0)))])
               (.call (some 37) 24 [(.var 20), (.var 32), (.var 30), (.var 36), (.const (.int .i64 0))] []))))))
              (.cond (.eqx true .bool (.bin .eql (.var 35) (.const (.int .i64 0))) (.var 37))
                (.seq
                 (.set 1 (.const (.bool false)))
                .ret)
                .skip))
              (.seq
               (.set 38 (.bin .eql (.var 33) (.const (.int .i64 1))))
              (.cond (.var 38)
                (.seq
                 (.seq
                  (.call (some 39) 25 [(.len false (.var 21))] [])
                 (.seq
                  (.new (some 40) 29 (.const (.agg #[(.int .i64 0), (.int .u64 0), (.int .i64 0), (.pointer none)])) [])
                 (.store 4 (.var 40) (.var 39) [])))
                (.seq
                 (.seq
                  (.chk [(.var 21)])
                 (.seq
                  (.row (some 41) 29 1 (.upd 0 4 (.const (.agg #[(.int .i64 0), (.int .u64 0), (.int .i64 0), (.pointer none)])) (.ld (some 4) (.var 40))) [])
                 (.seq
                  (.bi (some 42) .append [54, 54] 54 [(.var 21), (.var 41)] [])
                 (.set 21 (.var 42)))))
                (.seq
                 (.seq
                  (.call (some 43) 15 [(.var 19), (.ld (some 4) (.var 27)), (.var 26), (.var 30), (.ld (some 4) (.var 40))] [])
                 (.seq
                  (.chk [(.bin .eql (.var 43) (.const (.int .i64 0)))])
                 (.call (some 44) 24 [(.var 20), (.var 32), (.var 30), (.const (.int .u64 0)), (.len false (.var 21))] [])))
                (.cond (.eqx true .bool (.bin .eql (.var 43) (.const (.int .i64 0))) (.var 44))
                  (.seq
                   (.set 1 (.const (.bool false)))
                  .ret)
                  .skip))))
                (.seq
                 (.set 45 (.bin .eql (.var 33) (.const (.int .i64 2))))
                (.cond (.var 45)
                  (.seq
                   (.seq
                    (.call (some 46) 16 [(.var 19), (.ld (some 4) (.var 27)), (.var 26), (.var 30)] [])
                   (.seq
                    (.chk [(.proj 1 (.var 46)), (.proj 0 (.var 46))])
                   (.seq
                    (.new (some 47) 29 (.const (.agg #[(.int .i64 0), (.int .u64 0), (.int .i64 0), (.pointer none)])) [])
                   (.seq
                    (.store 4 (.var 47) (.proj 0 (.var 46)) [])
                   (.set 48 (.proj 1 (.var 46)))))))
                  (.seq
                   (.seq
                    (.call (some 49) 26 [(.var 20), (.var 32), (.var 30)] [])
                   (.seq
                    (.chk [(.proj 2 (.var 49)), (.proj 1 (.var 49))])
                   (.seq
                    (.set 50 (.proj 0 (.var 49)))
                   (.seq
                    (.set 51 (.proj 1 (.var 49)))
                   (.set 52 (.proj 2 (.var 49)))))))
                  (.seq
                   (.seq
                    (.chk [(.pick (.eqx true .bool (.bin .eql (.var 48) (.const (.int .i64 0))) (.var 52)) (.const (.bool true)) (.pick (.bin .neq (.var 48) (.const (.int .i64 0))) (.pick (.bin .neq (.var 48) (.const (.int .i64 14))) (.const (.bool true)) (.eqx true (.cons 0 none .int (.cons 1 none .int (.cons 2 none .int (.cons 3 none .ptr .nil)))) (.ld (some 4) (.var 47)) (.const (.agg #[(.int .i64 0), (.int .u64 0), (.int .i64 0), (.pointer none)])))) (.const (.bool false)))), (.pick (.eqx true .bool (.bin .eql (.var 48) (.const (.int .i64 0))) (.var 52)) (.const (.bool false)) (.pick (.bin .neq (.var 48) (.const (.int .i64 0))) (.pick (.bin .neq (.var 48) (.const (.int .i64 14))) (.const (.bool true)) (.eqx true (.cons 0 none .int (.cons 1 none .int (.cons 2 none .int (.cons 3 none .ptr .nil)))) (.ld (some 4) (.var 47)) (.const (.agg #[(.int .i64 0), (.int .u64 0), (.int .i64 0), (.pointer none)])))) (.const (.bool false)))), (.pick (.eqx true .bool (.bin .eql (.var 48) (.const (.int .i64 0))) (.var 52)) (.const (.bool false)) (.pick (.bin .neq (.var 48) (.const (.int .i64 0))) (.pick (.bin .neq (.var 48) (.const (.int .i64 14))) (.const (.bool true)) (.eqx true (.cons 0 none .int (.cons 1 none .int (.cons 2 none .int (.cons 3 none .ptr .nil)))) (.ld (some 4) (.var 47)) (.const (.agg #[(.int .i64 0), (.int .u64 0), (.int .i64 0), (.pointer none)])))) (.const (.bool false)))), (.pick (.eqx true .bool (.bin .eql (.var 48) (.const (.int .i64 0))) (.var 52)) (.const (.bool false)) (.pick (.bin .neq (.var 48) (.const (.int .i64 0))) (.pick (.bin .neq (.var 48) (.const (.int .i64 14))) (.const (.bool false)) (.eqx true (.cons 0 none .int (.cons 1 none .int (.cons 2 none .int (.cons 3 none .ptr .nil)))) (.ld (some 4) (.var 47)) (.const (.agg #[(.int .i64 0), (.int .u64 0), (.int .i64 0), (.pointer none)])))) (.const (.bool false))))])
                   (.cond (.pick (.eqx true .bool (.bin .eql (.var 48) (.const (.int .i64 0))) (.var 52)) (.const (.bool true)) (.pick (.bin .neq (.var 48) (.const (.int .i64 0))) (.pick (.bin .neq (.var 48) (.const (.int .i64 14))) (.const (.bool true)) (.eqx true (.cons 0 none .int (.cons 1 none .int (.cons 2 none .int (.cons 3 none .ptr .nil)))) (.ld (some 4) (.var 47)) (.const (.agg #[(.int .i64 0), (.int .u64 0), (.int .i64 0), (.pointer none)])))) (.const (.bool false))))
                     (.seq
                      (.set 1 (.const (.bool false)))
                     .ret)
                     .skip))
                  (.seq
                   .draw
                  (.seq
                   (.chk [(.pick (.pick (.pick (.var 52) (.bin .gtr (.var 51) (.const (.int .i64 0))) (.const (.bool false))) (.eqx true (.cons 0 none .int (.cons 1 none .int (.cons 2 none .int (.cons 3 none .ptr .nil)))) (.ld (some 4) (.var 47)) (.ld (some 4) (.ixSl 4 (.var 21) (.bin .sub (.var 51) (.const (.int .i64 1)))))) (.const (.bool false))) (.const (.bool true)) (.pick (.pick (.var 52) (.bin .eql (.var 51) (.const (.int .i64 0))) (.const (.bool false))) (.eqx true (.cons 0 none .int (.cons 1 none .int (.cons 2 none .int (.cons 3 none .ptr .nil)))) (.ld (some 4) (.var 47)) (.upd 1 1 (.upd 0 1 (.const (.agg #[(.int .i64 0), (.int .u64 0), (.int .i64 0), (.pointer none)])) (.const (.int .i64 1))) (.var 50))) (.const (.bool false)))), (.pick (.pick (.pick (.var 52) (.bin .gtr (.var 51) (.const (.int .i64 0))) (.const (.bool false))) (.eqx true (.cons 0 none .int (.cons 1 none .int (.cons 2 none .int (.cons 3 none .ptr .nil)))) (.ld (some 4) (.var 47)) (.ld (some 4) (.ixSl 4 (.var 21) (.bin .sub (.var 51) (.const (.int .i64 1)))))) (.const (.bool false))) (.const (.bool false)) (.pick (.pick (.var 52) (.bin .eql (.var 51) (.const (.int .i64 0))) (.const (.bool false))) (.eqx true (.cons 0 none .int (.cons 1 none .int (.cons 2 none .int (.cons 3 none .ptr .nil)))) (.ld (some 4) (.var 47)) (.upd 1 1 (.upd 0 1 (.const (.agg #[(.int .i64 0), (.int .u64 0), (.int .i64 0), (.pointer none)])) (.const (.int .i64 1))) (.var 50))) (.const (.bool false)))), (.pick (.pick (.pick (.var 52) (.bin .gtr (.var 51) (.const (.int .i64 0))) (.const (.bool false))) (.eqx true (.cons 0 none .int (.cons 1 none .int (.cons 2 none .int (.cons 3 none .ptr .nil)))) (.ld (some 4) (.var 47)) (.ld (some 4) (.ixSl 4 (.var 21) (.bin .sub (.var 51) (.const (.int .i64 1)))))) (.const (.bool false))) (.const (.bool false)) (.pick (.pick (.var 52) (.bin .eql (.var 51) (.const (.int .i64 0))) (.const (.bool false))) (.eqx true (.cons 0 none .int (.cons 1 none .int (.cons 2 none .int (.cons 3 none .ptr .nil)))) (.ld (some 4) (.var 47)) (.upd 1 1 (.upd 0 1 (.const (.agg #[(.int .i64 0), (.int .u64 0), (.int .i64 0), (.pointer none)])) (.const (.int .i64 1))) (.var 50))) (.const (.bool false)))), (.pick (.pick (.pick (.var 52) (.bin .gtr (.var 51) (.const (.int .i64 0))) (.const (.bool false))) (.eqx true (.cons 0 none .int (.cons 1 none .int (.cons 2 none .int (.cons 3 none .ptr .nil)))) (.ld (some 4) (.var 47)) (.ld (some 4) (.ixSl 4 (.var 21) (.bin .sub (.var 51) (.const (.int .i64 1)))))) (.const (.bool false))) (.const (.bool false)) (.pick (.pick (.var 52) (.bin .eql (.var 51) (.const (.int .i64 0))) (.const (.bool false))) (.upd 1 1 (.upd 0 1 (.const (.agg #[(.int .i64 0), (.int .u64 0), (.int .i64 0), (.pointer none)])) (.const (.int .i64 1))) (.var 50)) (.const (.bool false))))])
                  (.cond (.pick (.pick (.pick (.var 52) (.bin .gtr (.var 51) (.const (.int .i64 0))) (.const (.bool false))) (.eqx true (.cons 0 none .int (.cons 1 none .int (.cons 2 none .int (.cons 3 none .ptr .nil)))) (.ld (some 4) (.var 47)) (.ld (some 4) (.ixSl 4 (.var 21) (.bin .sub (.var 51) (.const (.int .i64 1)))))) (.const (.bool false))) (.const (.bool true)) (.pick (.pick (.var 52) (.bin .eql (.var 51) (.const (.int .i64 0))) (.const (.bool false))) (.eqx true (.cons 0 none .int (.cons 1 none .int (.cons 2 none .int (.cons 3 none .ptr .nil)))) (.ld (some 4) (.var 47)) (.upd 1 1 (.upd 0 1 (.const (.agg #[(.int .i64 0), (.int .u64 0), (.int .i64 0), (.pointer none)])) (.const (.int .i64 1))) (.var 50))) (.const (.bool false))))
                    (.seq
                     (.set 1 (.const (.bool false)))
                    .ret)
                    .skip))))))
                  (.seq
                   (.set 53 (.bin .eql (.var 33) (.const (.int .i64 3))))
                  (.cond (.var 53)
                    (.seq
                     (.set 54 (.conv .i64 (.bin .rem (.conv .u64 (.ld none (.offp 3 (.var 23)))) (.const (.int .u64 70)))))
                    (.seq
                     (.seq
                      (.call (some 55) 18 [(.var 19), (.ld (some 4) (.var 27)), (.var 54)] [])
                     (.seq
                      (.chk [(.proj 1 (.var 55))])
                     (.seq
                      (.set 56 (.proj 0 (.var 55)))
                     (.set 57 (.proj 1 (.var 55))))))
                    (.seq
                     (.seq
                      (.call (some 58) 23 [(.var 25), (.const (.int .i64 0)), (.var 54)] [])
                     (.set 59 (.var 58)))
                    (.seq
                     (.set 60 (.pick (.bin .geq (.var 59) (.const (.int .i64 0))) (.bin .leq (.var 54) (.const (.int .i64 64))) (.const (.bool false))))
                    (.seq
                     (.seq
                      (.set 61 (.const (.int .i64 0)))
                     (.block 3
                       (.loop [0, 19, 20, 21, 22, 54, 56, 57, 59, 60, 61]
                         (.seq
                          (.cond (.pick (.bin .lss (.var 61) (.var 54)) (.var 60) (.const (.bool false)))
                            .skip
                            (.exit 3))
                         (.seq
                          (.block 4
                            (.set 60 (.bin .eql (.ld none (.offp 0 (.ixArr 64 2 (.offp 0 (.nn (.var 20))) (.bin .add (.var 59) (.var 61))))) (.const (.int .i64 1)))))
                         (.set 61 (.bin .add (.var 61) (.const (.int .i64 1)))))))))
                    (.seq
                     (.cond (.eqx true .bool (.bin .eql (.var 57) (.const (.int .i64 0))) (.var 60))
                       (.seq
                        (.set 1 (.const (.bool false)))
                       .ret)
                       .skip)
                    (.seq
                     (.set 62 (.const (.int .i64 0)))
                    (.block 5
                      (.loop [0, 19, 20, 21, 22, 54, 56, 59, 60, 62]
                        (.seq
                         (.cond (.pick (.bin .lss (.var 62) (.var 54)) (.var 60) (.const (.bool false)))
                           .skip
                           (.exit 5))
                        (.seq
                         (.block 6
                           (.seq
                            .draw
                           (.cond (.bin .neq (.ld none (.ixSl 1 (.var 56) (.var 62))) (.ld none (.offp 1 (.ixArr 64 2 (.offp 0 (.nn (.var 20))) (.bin .add (.var 59) (.var 62))))))
                             (.seq
                              (.set 1 (.const (.bool false)))
                             .ret)
                             .skip)))
                        (.set 62 (.bin .add (.var 62) (.const (.int .i64 1)))))))))))))))
                    (.seq
                     (.set 63 (.bin .eql (.var 33) (.const (.int .i64 4))))
                    (.cond (.var 63)
                      (.seq
                       (.set 64 (.slSl 1 (.ld none (.offp 5 (.var 23))) (.const (.int .i64 0)) (.mn (.len false (.ld none (.offp 5 (.var 23)))) (.const (.int .i64 70)))))
                      (.seq
                       (.seq
                        (.call (some 65) 23 [(.var 25), (.const (.int .i64 0)), (.len false (.var 64))] [])
                       (.set 66 (.var 65)))
                      (.seq
                       (.set 67 (.pick (.bin .geq (.var 66) (.const (.int .i64 0))) (.bin .leq (.len false (.var 64)) (.const (.int .i64 64))) (.const (.bool false))))
                      (.seq
                       (.seq
                        (.call (some 68) 20 [(.var 19), (.ld (some 4) (.var 27)), (.var 64)] [])
                       (.cond (.eqx true .bool (.bin .eql (.var 68) (.const (.int .i64 0))) (.var 67))
                         (.seq
                          (.set 1 (.const (.bool false)))
                         .ret)
                         .skip))
                      (.seq
                       (.set 69 (.const (.int .i64 0)))
                      (.block 7
                        (.loop [0, 19, 20, 21, 22, 64, 66, 67, 69]
                          (.seq
                           (.cond (.pick (.bin .lss (.var 69) (.len false (.var 64))) (.var 67) (.const (.bool false)))
                             .skip
                             (.exit 7))
                          (.seq
                           (.block 8
                             (.call none 24 [(.var 20), (.bin .add (.var 66) (.var 69)), (.const (.int .i64 1)), (.conv .u64 (.ld none (.ixSl 1 (.var 64) (.var 69)))), (.const (.int .i64 0))] []))
                          (.set 69 (.bin .add (.var 69) (.const (.int .i64 1)))))))))))))
                      .skip))))))))))))))))))))
       (.set 22 (.bin .add (.var 22) (.const (.int .i64 1)))))))))
  (.seq
   (.set 1 (.const (.bool true)))
  .ret))))))))
abbrev v_tipstafflaw19_RegionStacks : List Nat := [0, 2, 35, 37, 3, 4, 41, 43, 5, 6, 46, 57, 60, 64, 66, 70, 71, 75, 77, 7, 8, 9, 10, 11, 91, 12, 13, 14, 106, 109, 15, 113, 16, 118, 119, 128, 134, 135, 137, 141, 17, 144, 145, 151, 158, 160, 167, 18, 19, 174, 20, 21, 22, 222, 23, 233, 24, 25, 238, 26, 27, 28, 29, 289, 30, 301, 31, 32, 312, 33]
abbrev k_tipstafflaw19_RegionStacks : List (List Nat) := [[0, 19, 20, 21, 22], [0, 19, 20, 21, 22, 54, 56, 57, 59, 60, 61], [0, 19, 20, 21, 22, 54, 56, 59, 60, 62], [0, 19, 20, 21, 22, 64, 66, 67, 69]]
abbrev r_tipstafflaw19_RegionStacks : List Ex := [(.var 1)]
theorem ok_tipstafflaw19_RegionStacks : compile Try.prog Try.f5 v_tipstafflaw19_RegionStacks k_tipstafflaw19_RegionStacks = some (c_tipstafflaw19_RegionStacks, r_tipstafflaw19_RegionStacks) := by kernel_rfl

/- tipstaff/tipstafflaw19.none -/
def c_tipstafflaw19_none : Cmd :=
  (.seq
   (.set 0 (.const (.pointer none)))
  (.seq
   (.set 0 (.const (.pointer none)))
  .ret))
abbrev v_tipstafflaw19_none : List Nat := [0]
abbrev k_tipstafflaw19_none : List (List Nat) := []
abbrev r_tipstafflaw19_none : List Ex := [(.var 0)]
theorem ok_tipstafflaw19_none : compile Try.prog Try.f19 v_tipstafflaw19_none k_tipstafflaw19_none = some (c_tipstafflaw19_none, r_tipstafflaw19_none) := by kernel_rfl

/- tipstaff/tipstafflaw19.value -/
def c_tipstafflaw19_value : Cmd :=
  (.seq
   (.new (some 1) 29 (.const (.agg #[(.int .i64 0), (.int .u64 0), (.int .i64 0), (.pointer none)])) [])
  (.seq
   (.seq
    (.row (some 2) 3 3 (.upd 2 1 (.upd 1 1 (.upd 0 1 (.const (.agg #[(.int .i64 0), (.int .i64 0), (.int .i64 0)])) (.const (.int .i64 2))) (.const (.int .i64 3))) (.const (.int .i64 4))) [])
   (.seq
    (.chk [(.upd 1 1 (.upd 0 1 (.const (.agg #[(.int .i64 0), (.int .u64 0), (.int .i64 0), (.pointer none)])) (.ld none (.ixSl 1 (.var 2) (.bin .rem (.var 0) (.const (.int .i64 3)))))) (.conv .u64 (.var 0)))])
   (.store 4 (.var 1) (.upd 1 1 (.upd 0 1 (.const (.agg #[(.int .i64 0), (.int .u64 0), (.int .i64 0), (.pointer none)])) (.ld none (.ixSl 1 (.var 2) (.bin .rem (.var 0) (.const (.int .i64 3)))))) (.conv .u64 (.var 0))) [])))
  .ret))
abbrev v_tipstafflaw19_value : List Nat := [0, 2, 3]
abbrev k_tipstafflaw19_value : List (List Nat) := []
abbrev r_tipstafflaw19_value : List Ex := [(.ld (some 4) (.var 1))]
theorem ok_tipstafflaw19_value : compile Try.prog Try.f25 v_tipstafflaw19_value k_tipstafflaw19_value = some (c_tipstafflaw19_value, r_tipstafflaw19_value) := by kernel_rfl

/- tipstaff/tipstafflaw19.size -/
def c_tipstafflaw19_size : Cmd :=
  (.seq
   (.set 1 (.const (.int .i64 0)))
  (.seq
   (.seq
    (.row (some 2) 3 6 (.upd 5 1 (.upd 4 1 (.upd 3 1 (.upd 2 1 (.upd 1 1 (.upd 0 1 (.const (.agg (Array.replicate 6 (.int .i64 0)))) (.const (.int .i64 1))) (.const (.int .i64 2))) (.const (.int .i64 4))) (.const (.int .i64 8))) (.const (.int .i64 8))) (.const (.int .i64 8))) [])
   (.set 1 (.ld none (.ixSl 1 (.var 2) (.conv .i64 (.bin .rem (.conv .u64 (.var 0)) (.const (.int .u64 6))))))))
  .ret))
abbrev v_tipstafflaw19_size : List Nat := [0, 2, 3]
abbrev k_tipstafflaw19_size : List (List Nat) := []
abbrev r_tipstafflaw19_size : List Ex := [(.var 1)]
theorem ok_tipstafflaw19_size : compile Try.prog Try.f22 v_tipstafflaw19_size k_tipstafflaw19_size = some (c_tipstafflaw19_size, r_tipstafflaw19_size) := by kernel_rfl

/- tipstaff/tipstaffref19.Place -/
def c_tipstaffref19_Place : Cmd :=
  (.seq
   (.set 3 (.const (.int .i64 0)))
  (.seq
   (.cond (.pick (.pick (.pick (.bin .lss (.var 0) (.const (.int .i64 (-1000000000000)))) (.const (.bool true)) (.bin .gtr (.var 0) (.const (.int .i64 1000000000000)))) (.const (.bool true)) (.bin .lss (.var 1) (.const (.int .i64 (-1000000000000))))) (.const (.bool true)) (.bin .gtr (.var 1) (.const (.int .i64 1000000000000))))
     (.seq
      (.set 3 (.const (.int .i64 (-1))))
     .ret)
     .skip)
  (.seq
   (.set 4 (.bin .add (.bin .add (.var 0) (.var 1)) (.const (.int .i64 64))))
  (.seq
   (.cond (.pick (.bin .lss (.var 4) (.const (.int .i64 0))) (.const (.bool true)) (.bin .gtr (.bin .add (.var 4) (.var 2)) (.const (.int .i64 64))))
     (.seq
      (.set 3 (.const (.int .i64 (-1))))
     .ret)
     .skip)
  (.seq
   (.set 3 (.var 4))
  .ret)))))
abbrev v_tipstaffref19_Place : List Nat := [0, 1, 2, 6, 7]
abbrev k_tipstaffref19_Place : List (List Nat) := []
abbrev r_tipstaffref19_Place : List Ex := [(.var 3)]
theorem ok_tipstaffref19_Place : compile Try.prog Try.f23 v_tipstaffref19_Place k_tipstaffref19_Place = some (c_tipstaffref19_Place, r_tipstaffref19_Place) := by kernel_rfl

/- (*tipstaff/tipstaffref19.Stack).Save -/
def c_tipstaffref19_Stack_Save : Cmd :=
  (.seq
   (.set 5 (.const (.bool false)))
  (.seq
   (.cond (.pick (.bin .lss (.var 1) (.const (.int .i64 0))) (.const (.bool true)) (.pick (.bin .gtr (.var 4) (.const (.int .i64 0))) (.pick (.bin .neq (.var 2) (.const (.int .i64 8))) (.const (.bool true)) (.bin .neq (.bin .rem (.var 1) (.const (.int .i64 8))) (.const (.int .i64 0)))) (.const (.bool false))))
     (.seq
      (.set 5 (.const (.bool false)))
     .ret)
     .skip)
  (.seq
   (.call none 46 [(.var 0), (.var 1), (.var 2)] [])
  (.seq
   (.seq
    (.set 6 (.const (.int .i64 0)))
   (.block 0
     (.loop [0, 1, 2, 3, 4, 6]
       (.seq
        (.cond (.bin .lss (.var 6) (.var 2))
          .skip
          (.exit 0))
       (.seq
        (.block 1
          (.seq
           (.seq
            .draw
           (.seq
            (.chk [(.upd 1 1 (.upd 0 1 (.const (.agg #[(.int .i64 0), (.int .u8 0)])) (.const (.int .i64 1))) (.conv .u8 (.bin .shr (.var 3) (.bin .mul (.const (.int .i64 8)) (.var 6)))))])
           (.store 2 (.ixArr 64 2 (.offp 0 (.nn (.var 0))) (.bin .add (.var 1) (.var 6))) (.upd 1 1 (.upd 0 1 (.const (.agg #[(.int .i64 0), (.int .u8 0)])) (.const (.int .i64 1))) (.conv .u8 (.bin .shr (.var 3) (.bin .mul (.const (.int .i64 8)) (.var 6))))) [])))
          (.cond (.bin .gtr (.var 4) (.const (.int .i64 0)))
            (.store 1 (.offp 0 (.ixArr 64 2 (.offp 0 (.nn (.var 0))) (.bin .add (.var 1) (.var 6)))) (.const (.int .i64 2)) [])
            .skip)))
       (.set 6 (.bin .add (.var 6) (.const (.int .i64 1)))))))))
  (.seq
   (.cond (.bin .gtr (.var 4) (.const (.int .i64 0)))
     (.store 1 (.ixArr 8 1 (.offp 128 (.nn (.var 0))) (.bin .quo (.var 1) (.const (.int .i64 8)))) (.var 4) [])
     .skip)
  (.seq
   (.set 5 (.const (.bool true)))
  .ret))))))
abbrev v_tipstaffref19_Stack_Save : List Nat := [0, 1, 2, 3, 4, 10, 11]
abbrev k_tipstaffref19_Stack_Save : List (List Nat) := [[0, 1, 2, 3, 4, 6]]
abbrev r_tipstaffref19_Stack_Save : List Ex := [(.var 5)]
theorem ok_tipstaffref19_Stack_Save : compile Try.prog Try.f24 v_tipstaffref19_Stack_Save k_tipstaffref19_Stack_Save = some (c_tipstaffref19_Stack_Save, r_tipstaffref19_Stack_Save) := by kernel_rfl

/- (*tipstaff/tipstaffref19.Stack).Load -/
def c_tipstaffref19_Stack_Load : Cmd :=
  (.seq
   (.seq
    (.set 3 (.const (.int .u64 0)))
   (.seq
    (.set 4 (.const (.int .i64 0)))
   (.set 5 (.const (.bool false)))))
  (.seq
   (.cond (.bin .lss (.var 1) (.const (.int .i64 0)))
     (.seq
      (.seq
       (.set 3 (.const (.int .u64 0)))
      (.seq
       (.set 4 (.const (.int .i64 0)))
      (.set 5 (.const (.bool false)))))
     .ret)
     .skip)
  (.seq
   (.cond (.pick (.pick (.bin .eql (.var 2) (.const (.int .i64 8))) (.bin .eql (.bin .rem (.var 1) (.const (.int .i64 8))) (.const (.int .i64 0))) (.const (.bool false))) (.bin .gtr (.ld none (.ixArr 8 1 (.offp 128 (.nn (.var 0))) (.bin .quo (.var 1) (.const (.int .i64 8))))) (.const (.int .i64 0))) (.const (.bool false)))
     (.seq
      (.seq
       .draw
      (.seq
       (.chk [(.ld none (.ixArr 8 1 (.offp 128 (.nn (.var 0))) (.bin .quo (.var 1) (.const (.int .i64 8)))))])
      (.seq
       (.set 3 (.const (.int .u64 0)))
      (.seq
       (.set 4 (.ld none (.ixArr 8 1 (.offp 128 (.nn (.var 0))) (.bin .quo (.var 1) (.const (.int .i64 8))))))
      (.set 5 (.const (.bool true)))))))
     .ret)
     .skip)
  (.seq
   (.set 6 (.const (.int .u64 0)))
  (.seq
   (.seq
    (.set 7 (.bin .sub (.var 2) (.const (.int .i64 1))))
   (.block 0
     (.loop [0, 1, 6, 7]
       (.seq
        (.cond (.bin .geq (.var 7) (.const (.int .i64 0)))
          .skip
          (.exit 0))
       (.seq
        (.block 1
          (.seq
           (.cond (.bin .neq (.ld none (.offp 0 (.ixArr 64 2 (.offp 0 (.nn (.var 0))) (.bin .add (.var 1) (.var 7))))) (.const (.int .i64 1)))
             (.seq
              (.seq
               (.set 3 (.const (.int .u64 0)))
              (.seq
               (.set 4 (.const (.int .i64 0)))
              (.set 5 (.const (.bool false)))))
             .ret)
             .skip)
          (.set 6 (.bin .or (.bin .shl (.var 6) (.const (.int .u64 8))) (.conv .u64 (.ld none (.offp 1 (.ixArr 64 2 (.offp 0 (.nn (.var 0))) (.bin .add (.var 1) (.var 7))))))))))
       (.set 7 (.bin .sub (.var 7) (.const (.int .i64 1)))))))))
  (.seq
   (.seq
    (.set 3 (.var 6))
   (.seq
    (.set 4 (.const (.int .i64 0)))
   (.set 5 (.const (.bool true)))))
  .ret))))))
abbrev v_tipstaffref19_Stack_Load : List Nat := [0, 1, 2, 6, 7, 8, 9, 10]
abbrev k_tipstaffref19_Stack_Load : List (List Nat) := [[0, 1, 6, 7]]
abbrev r_tipstaffref19_Stack_Load : List Ex := [(.var 3), (.var 4), (.var 5)]
theorem ok_tipstaffref19_Stack_Load : compile Try.prog Try.f26 v_tipstaffref19_Stack_Load k_tipstaffref19_Stack_Load = some (c_tipstaffref19_Stack_Load, r_tipstaffref19_Stack_Load) := by kernel_rfl

/- (*tipstaff/tipstaffref19.Stack).clear -/
def c_tipstaffref19_Stack_clear : Cmd :=
  (.seq
   (.set 3 (.var 1))
  (.block 0
    (.loop [0, 1, 2, 3]
      (.seq
       (.cond (.bin .lss (.var 3) (.bin .add (.var 1) (.var 2)))
         .skip
         (.exit 0))
      (.seq
       (.block 1
         (.seq
          (.cond (.bin .eql (.ld none (.ixArr 8 1 (.offp 128 (.nn (.var 0))) (.bin .quo (.var 3) (.const (.int .i64 8))))) (.const (.int .i64 0)))
            (.exit 1)
            .skip)
         (.seq
          (.store 1 (.ixArr 8 1 (.offp 128 (.nn (.var 0))) (.bin .quo (.var 3) (.const (.int .i64 8)))) (.const (.int .i64 0)) [])
         (.seq
          (.set 4 (.const (.int .i64 0)))
         (.block 2
           (.loop [0, 1, 2, 3, 4]
             (.seq
              (.cond (.bin .lss (.var 4) (.const (.int .i64 8)))
                .skip
                (.exit 2))
             (.seq
              (.block 3
                (.store 2 (.ixArr 64 2 (.offp 0 (.nn (.var 0))) (.bin .add (.bin .mul (.bin .quo (.var 3) (.const (.int .i64 8))) (.const (.int .i64 8))) (.var 4))) (.const (.agg #[(.int .i64 0), (.int .u8 0)])) []))
             (.set 4 (.bin .add (.var 4) (.const (.int .i64 1))))))))))))
      (.set 3 (.bin .add (.var 3) (.const (.int .i64 1)))))))))
abbrev v_tipstaffref19_Stack_clear : List Nat := [0, 1, 2, 6, 7]
abbrev k_tipstaffref19_Stack_clear : List (List Nat) := [[0, 1, 2, 3], [0, 1, 2, 3, 4]]
abbrev r_tipstaffref19_Stack_clear : List Ex := []
theorem ok_tipstaffref19_Stack_clear : compile Try.prog Try.f46 v_tipstaffref19_Stack_clear k_tipstaffref19_Stack_clear = some (c_tipstaffref19_Stack_clear, r_tipstaffref19_Stack_clear) := by kernel_rfl
end Go.Proofs.Ytihaopoehhnbkaa
