/- Commands of functions, and that they are what the code comes to. -/
import Derived.Test.YtihaopoehhnbkaaRegN
import Derived.Test.YtihaopoehhnbkaaRows
namespace Go.Proofs.Ytihaopoehhnbkaa
open Go.Eng
/- tipstaff/tipstafflaw09.BmapPrefix -/
def c_tipstafflaw09_BmapPrefix : Cmd :=
  (.seq
   (.set 3 (.const (.bool false)))
  (.seq
   (.seq
    (.chk [(.upd 3 1 (.upd 2 1 (.upd 1 1 (.upd 0 1 (.const (.agg (Array.replicate 4 (.int .i64 0)))) (.const (.int .i64 5))) (.const (.int .i64 5))) (.const (.int .i64 1))) (.const (.int .i64 9)))])
   (.seq
    (.call (some 4) 27 [(.upd 3 1 (.upd 2 1 (.upd 1 1 (.upd 0 1 (.const (.agg (Array.replicate 4 (.int .i64 0)))) (.const (.int .i64 5))) (.const (.int .i64 5))) (.const (.int .i64 1))) (.const (.int .i64 9)))] [])
   (.seq
    (.chk [(.proj 1 (.var 4))])
   (.seq
    (.set 5 (.proj 0 (.var 4)))
   (.set 6 (.proj 1 (.var 4)))))))
  (.seq
   (.seq
    (.call (some 7) 28 [] [])
   (.cond (.pick (.un .not (.var 7)) (.const (.bool true)) (.bin .neq (.var 6) (.const (.int .i64 0))))
     (.seq
      (.set 3 (.const (.bool false)))
     .ret)
     .skip))
  (.seq
   (.new (some 8) 71 (.const (.agg (Array.replicate 9 (.bool false)))) [])
  (.seq
   (.seq
    (.set 9 (.const (.int .i64 0)))
   (.block 0
     (.loop [0, 1, 2, 5, 8, 9]
       (.seq
        (.cond (.pick (.bin .lss (.var 9) (.len false (.var 0))) (.bin .lss (.var 9) (.const (.int .i64 9))) (.const (.bool false)))
          .skip
          (.exit 0))
       (.seq
        (.block 1
          (.seq
           (.set 10 (.conv .u8 (.bin .rem (.conv .u64 (.ld none (.ixSl 1 (.var 0) (.var 9)))) (.const (.int .u64 9)))))
          (.seq
           (.seq
            (.seq
             (.chk [(.var 5)])
            (.seq
             (.row (some 11) 5 5 (.upd 4 1 (.upd 3 1 (.upd 2 1 (.upd 1 1 (.upd 0 1 (.const (.agg (Array.replicate 5 (.int .u8 0)))) (.var 10)) (.const (.int .u8 0))) (.const (.int .u8 0))) (.const (.int .u8 0))) (.var 1)) [])
            (.seq
             (.row (some 12) 5 1 (.upd 0 1 (.const (.agg #[(.int .u8 0)])) (.var 10)) [])
            (.call (some 13) 30 [(.var 5), (.var 11), (.var 12), (.const (.int .u64 0))] []))))
           (.cond (.bin .neq (.var 13) (.const (.int .i64 0)))
             (.seq
              (.set 3 (.const (.bool false)))
             .ret)
             .skip))
          (.store 1 (.ixArr 9 1 (.var 8) (.var 10)) (.const (.bool true)) []))))
       (.set 9 (.bin .add (.var 9) (.const (.int .i64 1)))))))))
  (.seq
   (.set 14 (.const (.int .i64 (-1))))
  (.seq
   (.seq
    (.set 15 (.const (.int .i64 0)))
   (.block 2
     (.loop [1, 2, 5, 8, 14, 15]
       (.seq
        (.cond (.bin .leq (.var 15) (.const (.int .i64 8)))
          .skip
          (.exit 2))
       (.seq
        (.block 3
          (.seq
           .draw
          (.cond (.pick (.ld none (.ixArr 9 1 (.var 8) (.var 15))) (.bin .eql (.bin .shr (.var 1) (.bin .sub (.const (.int .i64 8)) (.var 15))) (.bin .shr (.var 2) (.bin .sub (.const (.int .i64 8)) (.var 15)))) (.const (.bool false)))
            (.set 14 (.var 15))
            .skip)))
       (.set 15 (.bin .add (.var 15) (.const (.int .i64 1)))))))))
  (.seq
   (.seq
    (.chk [(.var 5)])
   (.seq
    (.row (some 16) 5 5 (.upd 4 1 (.upd 3 1 (.upd 2 1 (.upd 1 1 (.upd 0 1 (.const (.agg (Array.replicate 5 (.int .u8 0)))) (.const (.int .u8 8))) (.const (.int .u8 0))) (.const (.int .u8 0))) (.const (.int .u8 0))) (.var 2)) [])
   (.seq
    (.call (some 17) 29 [(.var 5), (.var 16)] [])
   (.seq
    (.chk [(.proj 1 (.var 17))])
   (.seq
    (.set 18 (.proj 0 (.var 17)))
   (.set 19 (.proj 1 (.var 17))))))))
  (.seq
   (.seq
    (.chk [(.var 5)])
   (.seq
    (.row (some 20) 5 5 (.upd 4 1 (.upd 3 1 (.upd 2 1 (.upd 1 1 (.upd 0 1 (.const (.agg (Array.replicate 5 (.int .u8 0)))) (.const (.int .u8 9))) (.const (.int .u8 0))) (.const (.int .u8 0))) (.const (.int .u8 0))) (.var 2)) [])
   (.seq
    (.call (some 21) 29 [(.var 5), (.var 20)] [])
   (.seq
    (.chk [(.proj 1 (.var 21))])
   (.seq
    (.set 22 (.proj 0 (.var 21)))
   (.set 23 (.proj 1 (.var 21))))))))
  (.seq
   (.cond (.bin .lss (.var 14) (.const (.int .i64 0)))
     (.seq
      (.set 3 (.pick (.bin .eql (.var 19) (.const (.int .i64 2))) (.bin .eql (.var 23) (.const (.int .i64 22))) (.const (.bool false))))
     .ret)
     .skip)
  (.seq
   (.set 3 (.pick (.pick (.pick (.bin .eql (.var 19) (.const (.int .i64 0))) (.bin .eql (.len false (.var 18)) (.const (.int .i64 1))) (.const (.bool false))) (.bin .eql (.conv .i64 (.ld none (.ixSl 1 (.var 18) (.const (.int .i64 0))))) (.var 14)) (.const (.bool false))) (.bin .eql (.var 23) (.const (.int .i64 22))) (.const (.bool false))))
  .ret)))))))))))
abbrev v_tipstafflaw09_BmapPrefix : List Nat := [0, 1, 2, 6, 20, 7, 8, 23, 9, 10, 11, 49, 51, 52, 12, 13, 78, 79, 14, 15, 85, 86, 16, 17]
abbrev k_tipstafflaw09_BmapPrefix : List (List Nat) := [[0, 1, 2, 5, 8, 9], [1, 2, 5, 8, 14, 15]]
abbrev r_tipstafflaw09_BmapPrefix : List Ex := [(.var 3)]
theorem ok_tipstafflaw09_BmapPrefix : compile Try.prog Try.f7 v_tipstafflaw09_BmapPrefix k_tipstafflaw09_BmapPrefix = some (c_tipstafflaw09_BmapPrefix, r_tipstafflaw09_BmapPrefix) := by kernel_rfl
end Go.Proofs.Ytihaopoehhnbkaa
