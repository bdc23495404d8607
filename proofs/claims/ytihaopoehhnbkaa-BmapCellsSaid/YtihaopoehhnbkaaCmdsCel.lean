/- Commands of functions, and that they are what the code comes to. -/
import Derived.Test.YtihaopoehhnbkaaEngK
import Derived.Test.YtihaopoehhnbkaaRows
namespace Go.Proofs.Ytihaopoehhnbkaa
open Go.Eng
/- tipstaff/tipstafflaw09.BmapCells -/
def c_tipstafflaw09_BmapCells : Cmd :=
  (.seq
   (.set 2 (.const (.bool false)))
  (.seq
   (.seq
    (.chk [(.upd 3 1 (.upd 2 1 (.upd 1 1 (.upd 0 1 (.const (.agg (Array.replicate 4 (.int .i64 0)))) (.const (.int .i64 1))) (.const (.int .i64 4))) (.const (.int .i64 1))) (.const (.int .i64 4)))])
   (.seq
    (.call (some 3) 27 [(.upd 3 1 (.upd 2 1 (.upd 1 1 (.upd 0 1 (.const (.agg (Array.replicate 4 (.int .i64 0)))) (.const (.int .i64 1))) (.const (.int .i64 4))) (.const (.int .i64 1))) (.const (.int .i64 4)))] [])
   (.seq
    (.chk [(.proj 1 (.var 3))])
   (.seq
    (.set 4 (.proj 0 (.var 3)))
   (.set 5 (.proj 1 (.var 3)))))))
  (.seq
   (.seq
    (.row (some 6) 5 4 (.upd 3 1 (.upd 2 1 (.upd 1 1 (.upd 0 1 (.const (.agg (Array.replicate 4 (.int .u8 0)))) (.const (.int .u8 0))) (.const (.int .u8 0))) (.const (.int .u8 0))) (.const (.int .u8 0))) [])
   (.set 7 (.var 6)))
  (.seq
   (.bi none .copy [38, 38] 3 [(.var 7), (.var 0)] [])
  (.seq
   (.seq
    (.seq
     (.call (some 8) 28 [] [])
    (.seq
     (.chk [(.pick (.pick (.un .not (.var 8)) (.const (.bool true)) (.bin .neq (.var 5) (.const (.int .i64 0)))) (.const (.bool false)) (.var 7)), (.pick (.pick (.un .not (.var 8)) (.const (.bool true)) (.bin .neq (.var 5) (.const (.int .i64 0)))) (.const (.bool false)) (.var 4))])
    (.seq
     (.cond (.pick (.pick (.un .not (.var 8)) (.const (.bool true)) (.bin .neq (.var 5) (.const (.int .i64 0)))) (.const (.bool false)) (.const (.bool true)))
       (.row (some 9) 5 1 (.upd 0 1 (.const (.agg #[(.int .u8 0)])) (.const (.int .u8 1))) [])
       (.clr [9]))
    (.cond (.pick (.pick (.un .not (.var 8)) (.const (.bool true)) (.bin .neq (.var 5) (.const (.int .i64 0)))) (.const (.bool false)) (.const (.bool true)))
      (.call (some 10) 30 [(.var 4), (.var 7), (.var 9), (.const (.int .u64 0))] [])
      (.clr [10])))))
   (.cond (.pick (.pick (.un .not (.var 8)) (.const (.bool true)) (.bin .neq (.var 5) (.const (.int .i64 0)))) (.const (.bool true)) (.bin .neq (.var 10) (.const (.int .i64 0))))
     (.seq
      (.set 2 (.const (.bool false)))
     .ret)
     .skip))
  (.seq
   (.seq
    (.call (some 11) 33 [(.var 4), (.var 7)] [])
   (.seq
    (.chk [(.proj 1 (.var 11))])
   (.seq
    (.set 12 (.proj 0 (.var 11)))
   (.set 13 (.proj 1 (.var 11))))))
  (.seq
   (.cond (.pick (.bin .neq (.var 13) (.const (.int .i64 0))) (.const (.bool true)) (.isnil 0 false (.var 12)))
     (.seq
      (.set 2 (.const (.bool false)))
     .ret)
     .skip)
  (.seq
   (.seq
    (.set 14 (.const (.int .i64 0)))
   (.block 0
     (.loop [1, 4, 7, 12, 14]
       (.seq
        (.cond (.pick (.bin .lss (.var 14) (.len false (.var 1))) (.bin .lss (.var 14) (.const (.int .i64 20))) (.const (.bool false)))
          .skip
          (.exit 0))
       (.seq
        (.block 1
          (.seq
           (.seq
            (.seq
             .draw
            (.call (some 15) 30 [(.var 4), (.var 7), (.slSl 1 (.var 1) (.var 14) (.bin .add (.var 14) (.const (.int .i64 1)))), (.const (.int .u64 0))] []))
           (.cond (.pick (.pick (.bin .neq (.var 15) (.const (.int .i64 0))) (.const (.bool true)) (.bin .neq (.len false (.ld none (.offp 0 (.nn (.var 12))))) (.const (.int .i64 1)))) (.const (.bool true)) (.bin .neq (.ld none (.ixSl 1 (.ld none (.offp 0 (.nn (.var 12)))) (.const (.int .i64 0)))) (.ld none (.ixSl 1 (.var 1) (.var 14)))))
             (.seq
              (.set 2 (.const (.bool false)))
             .ret)
             .skip))
          (.seq
           (.seq
            .draw
           (.store 1 (.ixSl 1 (.ld none (.offp 0 (.nn (.var 12)))) (.const (.int .i64 0))) (.bin .xor (.ld none (.ixSl 1 (.var 1) (.var 14))) (.const (.int .u8 7))) []))
          (.seq
           (.seq
            (.call (some 16) 29 [(.var 4), (.var 7)] [])
           (.seq
            (.chk [(.proj 1 (.var 16))])
           (.seq
            (.set 17 (.proj 0 (.var 16)))
           (.set 18 (.proj 1 (.var 16))))))
          (.seq
           .draw
          (.cond (.pick (.pick (.bin .neq (.var 18) (.const (.int .i64 0))) (.const (.bool true)) (.bin .neq (.len false (.var 17)) (.const (.int .i64 1)))) (.const (.bool true)) (.bin .neq (.ld none (.ixSl 1 (.var 17) (.const (.int .i64 0)))) (.bin .xor (.ld none (.ixSl 1 (.var 1) (.var 14))) (.const (.int .u8 7)))))
            (.seq
             (.set 2 (.const (.bool false)))
            .ret)
            .skip))))))
       (.set 14 (.bin .add (.var 14) (.const (.int .i64 1)))))))))
  (.seq
   (.seq
    (.seq
     (.call (some 19) 32 [(.var 4), (.var 7)] [])
    (.seq
     (.chk [(.pick (.bin .neq (.var 19) (.const (.int .i64 0))) (.const (.bool false)) (.var 7)), (.pick (.bin .neq (.var 19) (.const (.int .i64 0))) (.const (.bool false)) (.var 4))])
    (.seq
     (.cond (.pick (.bin .neq (.var 19) (.const (.int .i64 0))) (.const (.bool false)) (.const (.bool true)))
       (.row (some 20) 5 1 (.upd 0 1 (.const (.agg #[(.int .u8 0)])) (.const (.int .u8 9))) [])
       (.clr [20]))
    (.cond (.pick (.bin .neq (.var 19) (.const (.int .i64 0))) (.const (.bool false)) (.const (.bool true)))
      (.call (some 21) 30 [(.var 4), (.var 7), (.var 20), (.const (.int .u64 1))] [])
      (.clr [21])))))
   (.cond (.pick (.bin .neq (.var 19) (.const (.int .i64 0))) (.const (.bool true)) (.bin .neq (.var 21) (.const (.int .i64 0))))
     (.seq
      (.set 2 (.const (.bool false)))
     .ret)
     .skip))
  (.seq
   (.store 1 (.ixSl 1 (.ld none (.offp 0 (.nn (.var 12)))) (.const (.int .i64 0))) (.const (.int .u8 5)) [])
  (.seq
   (.seq
    (.call (some 22) 29 [(.var 4), (.var 7)] [])
   (.seq
    (.chk [(.proj 1 (.var 22))])
   (.seq
    (.set 23 (.proj 0 (.var 22)))
   (.set 24 (.proj 1 (.var 22))))))
  (.seq
   (.set 2 (.pick (.pick (.bin .eql (.var 24) (.const (.int .i64 0))) (.bin .eql (.len false (.var 23)) (.const (.int .i64 1))) (.const (.bool false))) (.bin .eql (.ld none (.ixSl 1 (.var 23) (.const (.int .i64 0)))) (.const (.int .u8 9))) (.const (.bool false))))
  .ret))))))))))))
abbrev v_tipstafflaw09_BmapCells : List Nat := [0, 1, 4, 17, 5, 6, 20, 7, 24, 33, 34, 40, 8, 9, 10, 66, 102, 11, 12, 125, 130, 131, 142, 13, 14]
abbrev k_tipstafflaw09_BmapCells : List (List Nat) := [[1, 4, 7, 12, 14]]
abbrev r_tipstafflaw09_BmapCells : List Ex := [(.var 2)]
theorem ok_tipstafflaw09_BmapCells : compile Try.prog Try.f10 v_tipstafflaw09_BmapCells k_tipstafflaw09_BmapCells = some (c_tipstafflaw09_BmapCells, r_tipstafflaw09_BmapCells) := by kernel_rfl
end Go.Proofs.Ytihaopoehhnbkaa
