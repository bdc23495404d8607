/- Commands of functions, and that they are what the code comes to. -/
import Derived.Test.YtihaopoehhnbkaaEngK
import Derived.Test.YtihaopoehhnbkaaRows
namespace Go.Proofs.Ytihaopoehhnbkaa
open Go.Eng
/- tipstaff/tipstafflaw09.BmapFlags -/
def c_tipstafflaw09_BmapFlags : Cmd :=
  (.seq
   (.set 2 (.const (.bool false)))
  (.seq
   (.seq
    (.chk [(.upd 3 1 (.upd 2 1 (.upd 1 1 (.upd 0 1 (.const (.agg (Array.replicate 4 (.int .i64 0)))) (.const (.int .i64 1))) (.const (.int .i64 1))) (.const (.int .i64 1))) (.const (.int .i64 3)))])
   (.seq
    (.call (some 3) 27 [(.upd 3 1 (.upd 2 1 (.upd 1 1 (.upd 0 1 (.const (.agg (Array.replicate 4 (.int .i64 0)))) (.const (.int .i64 1))) (.const (.int .i64 1))) (.const (.int .i64 1))) (.const (.int .i64 3)))] [])
   (.seq
    (.chk [(.proj 1 (.var 3))])
   (.seq
    (.set 4 (.proj 0 (.var 3)))
   (.set 5 (.proj 1 (.var 3)))))))
  (.seq
   (.seq
    (.call (some 6) 28 [] [])
   (.cond (.pick (.un .not (.var 6)) (.const (.bool true)) (.bin .neq (.var 5) (.const (.int .i64 0))))
     (.seq
      (.set 2 (.const (.bool false)))
     .ret)
     .skip))
  (.seq
   (.new (some 7) 73 (.const (.agg (Array.replicate 6 (.bool false)))) [])
  (.seq
   (.set 8 (.const (.int .i64 0)))
  (.seq
   (.seq
    (.set 9 (.const (.int .i64 0)))
   (.block 0
     (.loop [0, 1, 4, 7, 8, 9]
       (.seq
        (.cond (.pick (.bin .lss (.var 9) (.len false (.var 0))) (.bin .lss (.var 9) (.const (.int .i64 30))) (.const (.bool false)))
          .skip
          (.exit 0))
       (.seq
        (.block 1
          (.seq
           (.set 10 (.bin .rem (.ld none (.ixSl 1 (.var 0) (.var 9))) (.const (.int .u8 6))))
          (.seq
           (.set 11 (.const (.int .u64 0)))
          (.seq
           (.cond (.bin .lss (.var 9) (.len false (.var 1)))
             (.set 11 (.conv .u64 (.bin .rem (.ld none (.ixSl 1 (.var 1) (.var 9))) (.const (.int .u8 3)))))
             .skip)
          (.seq
           (.set 12 (.const (.int .i64 0)))
          (.seq
           (.block 2
             (.seq
              (.set 13 (.pick (.ld none (.ixArr 6 1 (.var 7) (.var 10))) (.bin .eql (.var 11) (.const (.int .u64 1))) (.const (.bool false))))
             (.cond (.var 13)
               (.set 12 (.const (.int .i64 17)))
               (.seq
                (.set 14 (.pick (.un .not (.ld none (.ixArr 6 1 (.var 7) (.var 10)))) (.bin .eql (.var 11) (.const (.int .u64 2))) (.const (.bool false))))
               (.cond (.var 14)
                 (.set 12 (.const (.int .i64 2)))
                 (.seq
                  (.set 15 (.pick (.un .not (.ld none (.ixArr 6 1 (.var 7) (.var 10)))) (.bin .eql (.var 8) (.const (.int .i64 3))) (.const (.bool false))))
                 (.cond (.var 15)
                   (.set 12 (.const (.int .i64 7)))
                   .skip)))))))
          (.seq
           (.seq
            (.seq
             (.chk [(.var 4)])
            (.seq
             (.row (some 16) 5 1 (.upd 0 1 (.const (.agg #[(.int .u8 0)])) (.var 10)) [])
            (.seq
             (.row (some 17) 5 1 (.upd 0 1 (.const (.agg #[(.int .u8 0)])) (.conv .u8 (.var 9))) [])
            (.call (some 18) 30 [(.var 4), (.var 16), (.var 17), (.var 11)] []))))
           (.cond (.bin .neq (.var 18) (.var 12))
             (.seq
              (.set 2 (.const (.bool false)))
             .ret)
             .skip))
          (.seq
           (.cond (.pick (.bin .eql (.var 12) (.const (.int .i64 0))) (.un .not (.ld none (.ixArr 6 1 (.var 7) (.var 10)))) (.const (.bool false)))
             (.seq
              (.store 1 (.ixArr 6 1 (.var 7) (.var 10)) (.const (.bool true)) [])
             (.set 8 (.bin .add (.var 8) (.const (.int .i64 1)))))
             .skip)
          (.seq
           (.call (some 19) 31 [(.var 4)] [])
          (.cond (.bin .neq (.var 19) (.var 8))
            (.seq
             (.set 2 (.const (.bool false)))
            .ret)
            .skip))))))))))
       (.set 9 (.bin .add (.var 9) (.const (.int .i64 1)))))))))
  (.seq
   (.set 2 (.const (.bool true)))
  .ret)))))))
abbrev v_tipstafflaw09_BmapFlags : List Nat := [0, 1, 4, 15, 5, 6, 18, 7, 8, 9, 10, 11, 12, 49, 57, 66, 77, 80, 82, 98]
abbrev k_tipstafflaw09_BmapFlags : List (List Nat) := [[0, 1, 4, 7, 8, 9]]
abbrev r_tipstafflaw09_BmapFlags : List Ex := [(.var 2)]
theorem ok_tipstafflaw09_BmapFlags : compile Try.prog Try.f8 v_tipstafflaw09_BmapFlags k_tipstafflaw09_BmapFlags = some (c_tipstafflaw09_BmapFlags, r_tipstafflaw09_BmapFlags) := by kernel_rfl
end Go.Proofs.Ytihaopoehhnbkaa
