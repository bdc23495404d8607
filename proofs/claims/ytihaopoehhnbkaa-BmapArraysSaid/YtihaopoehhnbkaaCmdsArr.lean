/- Commands of functions, and that they are what the code comes to. -/
import Derived.Test.YtihaopoehhnbkaaEngK
import Derived.Test.YtihaopoehhnbkaaRows
namespace Go.Proofs.Ytihaopoehhnbkaa
open Go.Eng
/- tipstaff/tipstafflaw09.BmapArrays -/
def c_tipstafflaw09_BmapArrays : Cmd :=
  (.seq
   (.set 3 (.const (.bool false)))
  (.seq
   (.set 4 (.bin .add (.const (.int .i64 1)) (.conv .i64 (.bin .rem (.conv .u64 (.var 0)) (.const (.int .u64 64))))))
  (.seq
   (.set 5 (.conv .i64 (.bin .rem (.conv .u64 (.var 1)) (.conv .u64 (.var 4)))))
  (.seq
   (.seq
    (.chk [(.upd 3 1 (.upd 2 1 (.upd 1 1 (.upd 0 1 (.const (.agg (Array.replicate 4 (.int .i64 0)))) (.const (.int .i64 0))) (.const (.int .i64 4))) (.const (.int .i64 1))) (.var 4))])
   (.seq
    (.call (some 6) 27 [(.upd 3 1 (.upd 2 1 (.upd 1 1 (.upd 0 1 (.const (.agg (Array.replicate 4 (.int .i64 0)))) (.const (.int .i64 0))) (.const (.int .i64 4))) (.const (.int .i64 1))) (.var 4))] [])
   (.seq
    (.chk [(.proj 1 (.var 6))])
   (.seq
    (.set 7 (.proj 0 (.var 6)))
   (.set 8 (.proj 1 (.var 6)))))))
  (.seq
   (.seq
    (.seq
     (.call (some 9) 28 [] [])
    (.seq
     (.chk [(.pick (.pick (.un .not (.var 9)) (.const (.bool true)) (.bin .neq (.var 8) (.const (.int .i64 0)))) (.const (.bool false)) (.var 7))])
    (.seq
     (.cond (.pick (.pick (.un .not (.var 9)) (.const (.bool true)) (.bin .neq (.var 8) (.const (.int .i64 0)))) (.const (.bool false)) (.const (.bool true)))
       (.call (some 10) 31 [(.var 7)] [])
       (.clr [10]))
    (.seq
     (.chk [(.pick (.pick (.pick (.un .not (.var 9)) (.const (.bool true)) (.bin .neq (.var 8) (.const (.int .i64 0)))) (.const (.bool true)) (.bin .neq (.var 10) (.var 4))) (.const (.bool false)) (.conv .u8 (.var 5))), (.pick (.pick (.pick (.un .not (.var 9)) (.const (.bool true)) (.bin .neq (.var 8) (.const (.int .i64 0)))) (.const (.bool true)) (.bin .neq (.var 10) (.var 4))) (.const (.bool false)) (.var 7))])
    (.seq
     (.cond (.pick (.pick (.pick (.un .not (.var 9)) (.const (.bool true)) (.bin .neq (.var 8) (.const (.int .i64 0)))) (.const (.bool true)) (.bin .neq (.var 10) (.var 4))) (.const (.bool false)) (.const (.bool true)))
       (.row (some 11) 5 4 (.upd 3 1 (.upd 2 1 (.upd 1 1 (.upd 0 1 (.const (.agg (Array.replicate 4 (.int .u8 0)))) (.conv .u8 (.var 5))) (.const (.int .u8 0))) (.const (.int .u8 0))) (.const (.int .u8 0))) [])
       (.clr [11]))
    (.seq
     (.chk [(.pick (.pick (.pick (.un .not (.var 9)) (.const (.bool true)) (.bin .neq (.var 8) (.const (.int .i64 0)))) (.const (.bool true)) (.bin .neq (.var 10) (.var 4))) (.const (.bool false)) (.var 2))])
    (.seq
     (.cond (.pick (.pick (.pick (.un .not (.var 9)) (.const (.bool true)) (.bin .neq (.var 8) (.const (.int .i64 0)))) (.const (.bool true)) (.bin .neq (.var 10) (.var 4))) (.const (.bool false)) (.const (.bool true)))
       (.row (some 12) 5 1 (.upd 0 1 (.const (.agg #[(.int .u8 0)])) (.var 2)) [])
       (.clr [12]))
    (.seq
     (.cond (.pick (.pick (.pick (.un .not (.var 9)) (.const (.bool true)) (.bin .neq (.var 8) (.const (.int .i64 0)))) (.const (.bool true)) (.bin .neq (.var 10) (.var 4))) (.const (.bool false)) (.const (.bool true)))
       (.call (some 13) 30 [(.var 7), (.var 11), (.var 12), (.const (.int .u64 2))] [])
       (.clr [13]))
    (.seq
     (.chk [(.pick (.pick (.pick (.pick (.un .not (.var 9)) (.const (.bool true)) (.bin .neq (.var 8) (.const (.int .i64 0)))) (.const (.bool true)) (.bin .neq (.var 10) (.var 4))) (.const (.bool true)) (.bin .neq (.var 13) (.const (.int .i64 0)))) (.const (.bool false)) (.conv .u8 (.var 5))), (.pick (.pick (.pick (.pick (.un .not (.var 9)) (.const (.bool true)) (.bin .neq (.var 8) (.const (.int .i64 0)))) (.const (.bool true)) (.bin .neq (.var 10) (.var 4))) (.const (.bool true)) (.bin .neq (.var 13) (.const (.int .i64 0)))) (.const (.bool false)) (.var 7))])
    (.seq
     (.cond (.pick (.pick (.pick (.pick (.un .not (.var 9)) (.const (.bool true)) (.bin .neq (.var 8) (.const (.int .i64 0)))) (.const (.bool true)) (.bin .neq (.var 10) (.var 4))) (.const (.bool true)) (.bin .neq (.var 13) (.const (.int .i64 0)))) (.const (.bool false)) (.const (.bool true)))
       (.row (some 14) 5 4 (.upd 3 1 (.upd 2 1 (.upd 1 1 (.upd 0 1 (.const (.agg (Array.replicate 4 (.int .u8 0)))) (.conv .u8 (.var 5))) (.const (.int .u8 0))) (.const (.int .u8 0))) (.const (.int .u8 0))) [])
       (.clr [14]))
    (.seq
     (.chk [(.pick (.pick (.pick (.pick (.un .not (.var 9)) (.const (.bool true)) (.bin .neq (.var 8) (.const (.int .i64 0)))) (.const (.bool true)) (.bin .neq (.var 10) (.var 4))) (.const (.bool true)) (.bin .neq (.var 13) (.const (.int .i64 0)))) (.const (.bool false)) (.var 2))])
    (.seq
     (.cond (.pick (.pick (.pick (.pick (.un .not (.var 9)) (.const (.bool true)) (.bin .neq (.var 8) (.const (.int .i64 0)))) (.const (.bool true)) (.bin .neq (.var 10) (.var 4))) (.const (.bool true)) (.bin .neq (.var 13) (.const (.int .i64 0)))) (.const (.bool false)) (.const (.bool true)))
       (.row (some 15) 5 1 (.upd 0 1 (.const (.agg #[(.int .u8 0)])) (.var 2)) [])
       (.clr [15]))
    (.seq
     (.cond (.pick (.pick (.pick (.pick (.un .not (.var 9)) (.const (.bool true)) (.bin .neq (.var 8) (.const (.int .i64 0)))) (.const (.bool true)) (.bin .neq (.var 10) (.var 4))) (.const (.bool true)) (.bin .neq (.var 13) (.const (.int .i64 0)))) (.const (.bool false)) (.const (.bool true)))
       (.call (some 16) 30 [(.var 7), (.var 14), (.var 15), (.const (.int .u64 1))] [])
       (.clr [16]))
    (.seq
     (.chk [(.pick (.pick (.pick (.pick (.pick (.un .not (.var 9)) (.const (.bool true)) (.bin .neq (.var 8) (.const (.int .i64 0)))) (.const (.bool true)) (.bin .neq (.var 10) (.var 4))) (.const (.bool true)) (.bin .neq (.var 13) (.const (.int .i64 0)))) (.const (.bool true)) (.bin .neq (.var 16) (.const (.int .i64 17)))) (.const (.bool false)) (.conv .u8 (.var 4))), (.pick (.pick (.pick (.pick (.pick (.un .not (.var 9)) (.const (.bool true)) (.bin .neq (.var 8) (.const (.int .i64 0)))) (.const (.bool true)) (.bin .neq (.var 10) (.var 4))) (.const (.bool true)) (.bin .neq (.var 13) (.const (.int .i64 0)))) (.const (.bool true)) (.bin .neq (.var 16) (.const (.int .i64 17)))) (.const (.bool false)) (.var 7))])
    (.seq
     (.cond (.pick (.pick (.pick (.pick (.pick (.un .not (.var 9)) (.const (.bool true)) (.bin .neq (.var 8) (.const (.int .i64 0)))) (.const (.bool true)) (.bin .neq (.var 10) (.var 4))) (.const (.bool true)) (.bin .neq (.var 13) (.const (.int .i64 0)))) (.const (.bool true)) (.bin .neq (.var 16) (.const (.int .i64 17)))) (.const (.bool false)) (.const (.bool true)))
       (.row (some 17) 5 4 (.upd 3 1 (.upd 2 1 (.upd 1 1 (.upd 0 1 (.const (.agg (Array.replicate 4 (.int .u8 0)))) (.conv .u8 (.var 4))) (.const (.int .u8 0))) (.const (.int .u8 0))) (.const (.int .u8 0))) [])
       (.clr [17]))
    (.seq
     (.chk [(.pick (.pick (.pick (.pick (.pick (.un .not (.var 9)) (.const (.bool true)) (.bin .neq (.var 8) (.const (.int .i64 0)))) (.const (.bool true)) (.bin .neq (.var 10) (.var 4))) (.const (.bool true)) (.bin .neq (.var 13) (.const (.int .i64 0)))) (.const (.bool true)) (.bin .neq (.var 16) (.const (.int .i64 17)))) (.const (.bool false)) (.var 2))])
    (.seq
     (.cond (.pick (.pick (.pick (.pick (.pick (.un .not (.var 9)) (.const (.bool true)) (.bin .neq (.var 8) (.const (.int .i64 0)))) (.const (.bool true)) (.bin .neq (.var 10) (.var 4))) (.const (.bool true)) (.bin .neq (.var 13) (.const (.int .i64 0)))) (.const (.bool true)) (.bin .neq (.var 16) (.const (.int .i64 17)))) (.const (.bool false)) (.const (.bool true)))
       (.row (some 18) 5 1 (.upd 0 1 (.const (.agg #[(.int .u8 0)])) (.var 2)) [])
       (.clr [18]))
    (.seq
     (.cond (.pick (.pick (.pick (.pick (.pick (.un .not (.var 9)) (.const (.bool true)) (.bin .neq (.var 8) (.const (.int .i64 0)))) (.const (.bool true)) (.bin .neq (.var 10) (.var 4))) (.const (.bool true)) (.bin .neq (.var 13) (.const (.int .i64 0)))) (.const (.bool true)) (.bin .neq (.var 16) (.const (.int .i64 17)))) (.const (.bool false)) (.const (.bool true)))
       (.call (some 19) 30 [(.var 7), (.var 17), (.var 18), (.const (.int .u64 0))] [])
       (.clr [19]))
    (.seq
     (.chk [(.pick (.pick (.pick (.pick (.pick (.pick (.un .not (.var 9)) (.const (.bool true)) (.bin .neq (.var 8) (.const (.int .i64 0)))) (.const (.bool true)) (.bin .neq (.var 10) (.var 4))) (.const (.bool true)) (.bin .neq (.var 13) (.const (.int .i64 0)))) (.const (.bool true)) (.bin .neq (.var 16) (.const (.int .i64 17)))) (.const (.bool true)) (.bin .neq (.var 19) (.const (.int .i64 7)))) (.const (.bool false)) (.conv .u8 (.var 5))), (.pick (.pick (.pick (.pick (.pick (.pick (.un .not (.var 9)) (.const (.bool true)) (.bin .neq (.var 8) (.const (.int .i64 0)))) (.const (.bool true)) (.bin .neq (.var 10) (.var 4))) (.const (.bool true)) (.bin .neq (.var 13) (.const (.int .i64 0)))) (.const (.bool true)) (.bin .neq (.var 16) (.const (.int .i64 17)))) (.const (.bool true)) (.bin .neq (.var 19) (.const (.int .i64 7)))) (.const (.bool false)) (.var 7))])
    (.seq
     (.cond (.pick (.pick (.pick (.pick (.pick (.pick (.un .not (.var 9)) (.const (.bool true)) (.bin .neq (.var 8) (.const (.int .i64 0)))) (.const (.bool true)) (.bin .neq (.var 10) (.var 4))) (.const (.bool true)) (.bin .neq (.var 13) (.const (.int .i64 0)))) (.const (.bool true)) (.bin .neq (.var 16) (.const (.int .i64 17)))) (.const (.bool true)) (.bin .neq (.var 19) (.const (.int .i64 7)))) (.const (.bool false)) (.const (.bool true)))
       (.row (some 20) 5 4 (.upd 3 1 (.upd 2 1 (.upd 1 1 (.upd 0 1 (.const (.agg (Array.replicate 4 (.int .u8 0)))) (.conv .u8 (.var 5))) (.const (.int .u8 0))) (.const (.int .u8 0))) (.const (.int .u8 0))) [])
       (.clr [20]))
    (.cond (.pick (.pick (.pick (.pick (.pick (.pick (.un .not (.var 9)) (.const (.bool true)) (.bin .neq (.var 8) (.const (.int .i64 0)))) (.const (.bool true)) (.bin .neq (.var 10) (.var 4))) (.const (.bool true)) (.bin .neq (.var 13) (.const (.int .i64 0)))) (.const (.bool true)) (.bin .neq (.var 16) (.const (.int .i64 17)))) (.const (.bool true)) (.bin .neq (.var 19) (.const (.int .i64 7)))) (.const (.bool false)) (.const (.bool true)))
      (.call (some 21) 32 [(.var 7), (.var 20)] [])
      (.clr [21]))))))))))))))))))))))
   (.cond (.pick (.pick (.pick (.pick (.pick (.pick (.un .not (.var 9)) (.const (.bool true)) (.bin .neq (.var 8) (.const (.int .i64 0)))) (.const (.bool true)) (.bin .neq (.var 10) (.var 4))) (.const (.bool true)) (.bin .neq (.var 13) (.const (.int .i64 0)))) (.const (.bool true)) (.bin .neq (.var 16) (.const (.int .i64 17)))) (.const (.bool true)) (.bin .neq (.var 19) (.const (.int .i64 7)))) (.const (.bool true)) (.bin .neq (.var 21) (.const (.int .i64 22))))
     (.seq
      (.set 3 (.const (.bool false)))
     .ret)
     .skip))
  (.seq
   (.seq
    (.set 22 (.const (.int .i64 0)))
   (.block 0
     (.loop [2, 4, 5, 7, 22]
       (.seq
        (.cond (.bin .lss (.var 22) (.var 4))
          .skip
          (.exit 0))
       (.seq
        (.block 1
          (.seq
           (.seq
            (.chk [(.var 7)])
           (.seq
            (.row (some 23) 5 4 (.upd 3 1 (.upd 2 1 (.upd 1 1 (.upd 0 1 (.const (.agg (Array.replicate 4 (.int .u8 0)))) (.conv .u8 (.var 22))) (.const (.int .u8 0))) (.const (.int .u8 0))) (.const (.int .u8 0))) [])
           (.seq
            (.call (some 24) 29 [(.var 7), (.var 23)] [])
           (.seq
            (.chk [(.proj 1 (.var 24))])
           (.seq
            (.set 25 (.proj 0 (.var 24)))
           (.set 26 (.proj 1 (.var 24))))))))
          (.seq
           (.set 27 (.const (.int .u8 0)))
          (.seq
           (.cond (.bin .eql (.var 22) (.var 5))
             (.set 27 (.var 2))
             .skip)
          (.cond (.pick (.pick (.bin .neq (.var 26) (.const (.int .i64 0))) (.const (.bool true)) (.bin .neq (.len false (.var 25)) (.const (.int .i64 1)))) (.const (.bool true)) (.bin .neq (.ld none (.ixSl 1 (.var 25) (.const (.int .i64 0)))) (.var 27)))
            (.seq
             (.set 3 (.const (.bool false)))
            .ret)
            .skip)))))
       (.set 22 (.bin .add (.var 22) (.const (.int .i64 1)))))))))
  (.seq
   (.seq
    (.chk [(.var 7)])
   (.seq
    (.row (some 28) 5 4 (.upd 3 1 (.upd 2 1 (.upd 1 1 (.upd 0 1 (.const (.agg (Array.replicate 4 (.int .u8 0)))) (.conv .u8 (.var 4))) (.const (.int .u8 0))) (.const (.int .u8 0))) (.const (.int .u8 0))) [])
   (.seq
    (.call (some 29) 29 [(.var 7), (.var 28)] [])
   (.seq
    (.chk [(.proj 1 (.var 29))])
   (.seq
    (.set 30 (.proj 0 (.var 29)))
   (.set 31 (.proj 1 (.var 29))))))))
  (.seq
   (.seq
    (.chk [(.var 7)])
   (.seq
    (.row (some 32) 5 4 (.upd 3 1 (.upd 2 1 (.upd 1 1 (.upd 0 1 (.const (.agg (Array.replicate 4 (.int .u8 0)))) (.conv .u8 (.var 5))) (.const (.int .u8 1))) (.const (.int .u8 0))) (.const (.int .u8 0))) [])
   (.seq
    (.call (some 33) 29 [(.var 7), (.var 32)] [])
   (.seq
    (.chk [(.proj 1 (.var 33))])
   (.seq
    (.set 34 (.proj 0 (.var 33)))
   (.set 35 (.proj 1 (.var 33))))))))
  (.seq
   (.seq
    (.chk [(.pick (.pick (.bin .eql (.var 31) (.const (.int .i64 2))) (.bin .eql (.var 35) (.const (.int .i64 2))) (.const (.bool false))) (.var 7) (.const (.bool false)))])
   (.seq
    (.cond (.pick (.pick (.bin .eql (.var 31) (.const (.int .i64 2))) (.bin .eql (.var 35) (.const (.int .i64 2))) (.const (.bool false))) (.const (.bool true)) (.const (.bool false)))
      (.call (some 36) 31 [(.var 7)] [])
      (.clr [36]))
   (.set 3 (.pick (.pick (.bin .eql (.var 31) (.const (.int .i64 2))) (.bin .eql (.var 35) (.const (.int .i64 2))) (.const (.bool false))) (.bin .eql (.var 36) (.var 4)) (.const (.bool false))))))
  .ret)))))))))
abbrev v_tipstafflaw09_BmapArrays : List Nat := [0, 1, 2, 6, 7, 8, 33, 9, 10, 36, 44, 52, 54, 55, 62, 64, 65, 72, 74, 75, 82, 83, 11, 95, 96, 12, 13, 14, 121, 122, 15, 16, 129, 130, 17, 18, 141]
abbrev k_tipstafflaw09_BmapArrays : List (List Nat) := [[2, 4, 5, 7, 22]]
abbrev r_tipstafflaw09_BmapArrays : List Ex := [(.var 3)]
theorem ok_tipstafflaw09_BmapArrays : compile Try.prog Try.f9 v_tipstafflaw09_BmapArrays k_tipstafflaw09_BmapArrays = some (c_tipstafflaw09_BmapArrays, r_tipstafflaw09_BmapArrays) := by kernel_rfl
end Go.Proofs.Ytihaopoehhnbkaa
