/- Commands of functions, and that they are what the code comes to. -/
import Derived.Test.YtihaopoehhnbkaaEngK
import Derived.Test.YtihaopoehhnbkaaRows
namespace Go.Proofs.Ytihaopoehhnbkaa
open Go.Eng
/- tipstaff/tipstafflaw09.BmapLines -/
def c_tipstafflaw09_BmapLines : Cmd :=
  (.seq
   (.set 2 (.const (.bool false)))
  (.seq
   (.set 3 (.const (.int .i64 3)))
  (.seq
   (.cond (.var 0)
     (.set 3 (.const (.int .i64 4)))
     .skip)
  (.seq
   (.seq
    (.chk [(.upd 3 1 (.upd 2 1 (.upd 0 1 (.const (.agg (Array.replicate 4 (.int .i64 0)))) (.var 3)) (.const (.int .i64 1))) (.const (.int .i64 8)))])
   (.seq
    (.call (some 4) 27 [(.upd 3 1 (.upd 2 1 (.upd 0 1 (.const (.agg (Array.replicate 4 (.int .i64 0)))) (.var 3)) (.const (.int .i64 1))) (.const (.int .i64 8)))] [])
   (.seq
    (.chk [(.proj 1 (.var 4))])
   (.seq
    (.set 5 (.proj 0 (.var 4)))
   (.set 6 (.proj 1 (.var 4)))))))
  (.seq
   (.seq
    (.call (some 7) 28 [] [])
   (.cond (.pick (.un .not (.var 7)) (.const (.bool true)) (.bin .neq (.var 6) (.const (.int .i64 0))))
     (.seq
      (.set 2 (.const (.bool false)))
     .ret)
     .skip))
  (.seq
   (.set 8 (.mn (.len false (.var 1)) (.const (.int .i64 12))))
  (.seq
   (.seq
    (.set 9 (.const (.int .i64 0)))
   (.block 0
     (.loop [0, 1, 5, 8, 9]
       (.seq
        (.cond (.bin .lss (.var 9) (.var 8))
          .skip
          (.exit 0))
       (.seq
        (.block 1
          (.seq
           (.call (some 10) 34 [(.var 5), (.slSl 1 (.var 1) (.var 9) (.bin .add (.var 9) (.const (.int .i64 1)))), (.const (.int .u64 0))] [])
          (.cond (.eqx true .bool (.bin .eql (.var 10) (.const (.int .i64 0))) (.bin .lss (.var 9) (.const (.int .i64 8))))
            (.seq
             (.set 2 (.const (.bool false)))
            .ret)
            .skip)))
       (.set 9 (.bin .add (.var 9) (.const (.int .i64 1)))))))))
  (.seq
   (.set 8 (.mn (.var 8) (.const (.int .i64 8))))
  (.seq
   (.seq
    (.set 11 (.const (.int .i64 0)))
   (.block 2
     (.loop [0, 1, 5, 8, 11]
       (.seq
        (.cond (.bin .lss (.var 11) (.var 8))
          .skip
          (.exit 2))
       (.seq
        (.block 3
          (.seq
           (.set 12 (.var 11))
          (.seq
           (.cond (.var 0)
             (.set 12 (.bin .sub (.bin .sub (.var 8) (.const (.int .i64 1))) (.var 11)))
             .skip)
          (.seq
           (.seq
            (.call (some 13) 35 [(.var 5)] [])
           (.seq
            (.chk [(.proj 1 (.var 13))])
           (.seq
            (.set 14 (.proj 0 (.var 13)))
           (.set 15 (.proj 1 (.var 13))))))
          (.seq
           (.seq
            (.call (some 16) 36 [(.var 5)] [])
           (.seq
            (.chk [(.proj 1 (.var 16))])
           (.seq
            (.set 17 (.proj 0 (.var 16)))
           (.set 18 (.proj 1 (.var 16))))))
          (.seq
           .draw
          (.cond (.pick (.pick (.pick (.pick (.bin .neq (.var 15) (.const (.int .i64 0))) (.const (.bool true)) (.bin .neq (.var 18) (.const (.int .i64 0)))) (.const (.bool true)) (.bin .neq (.len false (.var 17)) (.const (.int .i64 1)))) (.const (.bool true)) (.bin .neq (.ld none (.ixSl 1 (.var 17) (.const (.int .i64 0)))) (.ld none (.ixSl 1 (.var 1) (.var 12))))) (.const (.bool true)) (.bin .neq (.bstr (.var 14)) (.bstr (.var 17))))
            (.seq
             (.set 2 (.const (.bool false)))
            .ret)
            .skip)))))))
       (.set 11 (.bin .add (.var 11) (.const (.int .i64 1)))))))))
  (.seq
   (.seq
    (.call (some 19) 36 [(.var 5)] [])
   (.seq
    (.chk [(.proj 1 (.var 19))])
   (.seq
    (.set 20 (.proj 0 (.var 19)))
   (.set 21 (.proj 1 (.var 19))))))
  (.seq
   (.seq
    (.chk [(.pick (.bin .eql (.var 21) (.const (.int .i64 2))) (.var 5) (.const (.bool false)))])
   (.seq
    (.cond (.pick (.bin .eql (.var 21) (.const (.int .i64 2))) (.const (.bool true)) (.const (.bool false)))
      (.call (some 22) 31 [(.var 5)] [])
      (.clr [22]))
   (.set 2 (.pick (.bin .eql (.var 21) (.const (.int .i64 2))) (.bin .eql (.var 22) (.const (.int .i64 0))) (.const (.bool false))))))
  .ret)))))))))))
abbrev v_tipstafflaw09_BmapLines : List Nat := [0, 1, 4, 5, 22, 6, 7, 25, 8, 9, 45, 10, 11, 65, 12, 13, 70, 14, 15, 103, 16, 17, 110]
abbrev k_tipstafflaw09_BmapLines : List (List Nat) := [[0, 1, 5, 8, 9], [0, 1, 5, 8, 11]]
abbrev r_tipstafflaw09_BmapLines : List Ex := [(.var 2)]
theorem ok_tipstafflaw09_BmapLines : compile Try.prog Try.f11 v_tipstafflaw09_BmapLines k_tipstafflaw09_BmapLines = some (c_tipstafflaw09_BmapLines, r_tipstafflaw09_BmapLines) := by kernel_rfl
end Go.Proofs.Ytihaopoehhnbkaa
