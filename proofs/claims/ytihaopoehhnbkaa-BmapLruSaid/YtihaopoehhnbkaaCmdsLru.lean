/- Commands of functions, and that they are what the code comes to. -/
import Derived.Test.YtihaopoehhnbkaaEngK
import Derived.Test.YtihaopoehhnbkaaRows
namespace Go.Proofs.Ytihaopoehhnbkaa
open Go.Eng
/- tipstaff/tipstafflaw09.BmapLru -/
def c_tipstafflaw09_BmapLru : Cmd :=
  (.seq
   (.set 2 (.const (.bool false)))
  (.seq
   (.set 3 (.bin .add (.const (.int .i64 1)) (.conv .i64 (.bin .rem (.conv .u64 (.var 0)) (.const (.int .u64 6))))))
  (.seq
   (.seq
    (.chk [(.upd 3 1 (.upd 2 1 (.upd 1 1 (.upd 0 1 (.const (.agg (Array.replicate 4 (.int .i64 0)))) (.const (.int .i64 2))) (.const (.int .i64 1))) (.const (.int .i64 1))) (.var 3))])
   (.seq
    (.call (some 4) 27 [(.upd 3 1 (.upd 2 1 (.upd 1 1 (.upd 0 1 (.const (.agg (Array.replicate 4 (.int .i64 0)))) (.const (.int .i64 2))) (.const (.int .i64 1))) (.const (.int .i64 1))) (.var 3))] [])
   (.seq
    (.chk [(.proj 1 (.var 4))])
   (.seq
    (.set 5 (.proj 0 (.var 4)))
   (.set 6 (.proj 1 (.var 4)))))))
  (.seq
   (.seq
    (.call (some 7) 28 [] [])
   (.cond (.pick (.un .not (.var 7)) (.const (.bool true)) (.bin .neq (.var 6) (.const (.int .i64 0))))
     (.seq
      (.set 2 (.const (.bool false)))
     .ret)
     .skip))
  (.seq
   (.set 8 (.const (.slice none 0 0)))
  (.seq
   (.seq
    (.set 9 (.const (.int .i64 0)))
   (.block 0
     (.loop [1, 3, 5, 8, 9]
       (.seq
        (.cond (.pick (.bin .lss (.var 9) (.len false (.var 1))) (.bin .lss (.var 9) (.const (.int .i64 40))) (.const (.bool false)))
          .skip
          (.exit 0))
       (.seq
        (.block 1
          (.seq
           (.set 10 (.conv .u8 (.bin .rem (.conv .u64 (.ld none (.ixSl 1 (.var 1) (.var 9)))) (.const (.int .u64 9)))))
          (.seq
           (.set 11 (.const (.int .i64 (-1))))
          (.seq
           (.seq
            (.set 12 (.const (.int .i64 0)))
           (.block 2
             (.loop [1, 3, 5, 8, 9, 10, 11, 12]
               (.seq
                (.cond (.bin .lss (.var 12) (.len false (.var 8)))
                  .skip
                  (.exit 2))
               (.seq
                (.block 3
                  (.cond (.bin .eql (.ld none (.ixSl 1 (.var 8) (.var 12))) (.var 10))
                    (.set 11 (.var 12))
                    .skip))
               (.set 12 (.bin .add (.var 12) (.const (.int .i64 1)))))))))
          (.seq
           (.cond (.bin .eql (.bin .rem (.ld none (.ixSl 1 (.var 1) (.var 9))) (.const (.int .i64 3))) (.const (.int .i64 0)))
             (.seq
              (.seq
               (.chk [(.var 5)])
              (.seq
               (.row (some 13) 5 1 (.upd 0 1 (.const (.agg #[(.int .u8 0)])) (.var 10)) [])
              (.seq
               (.call (some 14) 29 [(.var 5), (.var 13)] [])
              (.seq
               (.chk [(.proj 1 (.var 14))])
              (.seq
               (.set 15 (.proj 0 (.var 14)))
              (.set 16 (.proj 1 (.var 14))))))))
             (.seq
              (.cond (.pick (.eqx true .bool (.bin .eql (.var 16) (.const (.int .i64 0))) (.bin .geq (.var 11) (.const (.int .i64 0)))) (.const (.bool true)) (.pick (.bin .eql (.var 16) (.const (.int .i64 0))) (.bin .neq (.ld none (.ixSl 1 (.var 15) (.const (.int .i64 0)))) (.bin .add (.var 10) (.const (.int .u8 1)))) (.const (.bool false))))
                (.seq
                 (.set 2 (.const (.bool false)))
                .ret)
                .skip)
             (.cond (.bin .lss (.var 11) (.const (.int .i64 0)))
               (.exit 1)
               .skip)))
             (.seq
              (.seq
               (.chk [(.var 5)])
              (.seq
               (.row (some 17) 5 1 (.upd 0 1 (.const (.agg #[(.int .u8 0)])) (.var 10)) [])
              (.seq
               (.row (some 18) 5 1 (.upd 0 1 (.const (.agg #[(.int .u8 0)])) (.bin .add (.var 10) (.const (.int .u8 1)))) [])
              (.call (some 19) 30 [(.var 5), (.var 17), (.var 18), (.const (.int .u64 0))] []))))
             (.cond (.bin .neq (.var 19) (.const (.int .i64 0)))
               (.seq
                (.set 2 (.const (.bool false)))
               .ret)
               .skip)))
          (.seq
           (.cond (.bin .geq (.var 11) (.const (.int .i64 0)))
             (.seq
              .draw
             (.seq
              (.chk [(.slSl 1 (.var 8) (.bin .add (.var 11) (.const (.int .i64 1))) (.len false (.var 8))), (.slSl 1 (.var 8) (.const (.int .i64 0)) (.var 11))])
             (.seq
              (.row (some 20) 5 0 (.const (.agg #[])) [])
             (.seq
              (.bi (some 21) .append [38, 38] 38 [(.var 20), (.slSl 1 (.var 8) (.const (.int .i64 0)) (.var 11))] [])
             (.seq
              (.bi (some 22) .append [38, 38] 38 [(.var 21), (.slSl 1 (.var 8) (.bin .add (.var 11) (.const (.int .i64 1))) (.len false (.var 8)))] [])
             (.set 8 (.var 22)))))))
             (.cond (.bin .eql (.len false (.var 8)) (.var 3))
               (.seq
                (.row (some 23) 5 0 (.const (.agg #[])) [])
               (.seq
                (.bi (some 24) .append [38, 38] 38 [(.var 23), (.slSl 1 (.var 8) (.const (.int .i64 1)) (.len false (.var 8)))] [])
               (.set 8 (.var 24))))
               .skip))
          (.seq
           (.seq
            (.chk [(.var 8)])
           (.seq
            (.row (some 25) 5 1 (.upd 0 1 (.const (.agg #[(.int .u8 0)])) (.var 10)) [])
           (.seq
            (.bi (some 26) .append [38, 38] 38 [(.var 8), (.var 25)] [])
           (.set 8 (.var 26)))))
          (.seq
           (.call (some 27) 31 [(.var 5)] [])
          (.cond (.bin .neq (.var 27) (.len false (.var 8)))
            (.seq
             (.set 2 (.const (.bool false)))
            .ret)
            .skip)))))))))
       (.set 9 (.bin .add (.var 9) (.const (.int .i64 1)))))))))
  (.seq
   (.seq
    (.set 28 (.const (.int .i64 0)))
   (.block 4
     (.loop [5, 8, 28]
       (.seq
        (.cond (.bin .lss (.var 28) (.len false (.var 8)))
          .skip
          (.exit 4))
       (.seq
        (.block 5
          (.seq
           (.seq
            (.call (some 29) 29 [(.var 5), (.slSl 1 (.var 8) (.var 28) (.bin .add (.var 28) (.const (.int .i64 1))))] [])
           (.seq
            (.chk [(.proj 1 (.var 29))])
           (.seq
            (.set 30 (.proj 0 (.var 29)))
           (.set 31 (.proj 1 (.var 29))))))
          (.cond (.bin .neq (.var 31) (.const (.int .i64 0)))
            (.seq
             (.set 2 (.const (.bool false)))
            .ret)
            .skip)))
       (.set 28 (.bin .add (.var 28) (.const (.int .i64 1)))))))))
  (.seq
   (.set 2 (.const (.bool true)))
  .ret))))))))
abbrev v_tipstafflaw09_BmapLru : List Nat := [0, 1, 4, 5, 26, 6, 7, 29, 8, 9, 10, 11, 12, 74, 75, 13, 14, 99, 102, 103, 107, 111, 116, 121, 124, 127, 128, 130, 15, 147, 16, 17]
abbrev k_tipstafflaw09_BmapLru : List (List Nat) := [[1, 3, 5, 8, 9], [1, 3, 5, 8, 9, 10, 11, 12], [5, 8, 28]]
abbrev r_tipstafflaw09_BmapLru : List Ex := [(.var 2)]
theorem ok_tipstafflaw09_BmapLru : compile Try.prog Try.f6 v_tipstafflaw09_BmapLru k_tipstafflaw09_BmapLru = some (c_tipstafflaw09_BmapLru, r_tipstafflaw09_BmapLru) := by kernel_rfl
end Go.Proofs.Ytihaopoehhnbkaa
