/- Commands of functions, and that they are what the code comes to. -/
import Derived.Test.YtihaopoehhnbkaaEngK
import Derived.Test.YtihaopoehhnbkaaRows
namespace Go.Proofs.Ytihaopoehhnbkaa
open Go.Eng
/- tipstaff/tipstafflaw19.RegionKept -/
def c_tipstafflaw19_RegionKept : Cmd :=
  (.seq
   (.set 2 (.const (.bool false)))
  (.seq
   (.seq
    (.call (some 3) 13 [(.const (.agg (Array.replicate 32 (.int .u8 0)))), (.const (.slice none 0 0))] [])
   (.set 4 (.var 3)))
  (.seq
   (.seq
    (.chk [(.upd 0 1 (.const (.agg #[(.int .i64 0), (.int .u64 0), (.int .i64 0), (.pointer none)])) (.const (.int .i64 3)))])
   (.seq
    (.new (some 5) 29 (.const (.agg #[(.int .i64 0), (.int .u64 0), (.int .i64 0), (.pointer none)])) [])
   (.store 4 (.var 5) (.upd 0 1 (.const (.agg #[(.int .i64 0), (.int .u64 0), (.int .i64 0), (.pointer none)])) (.const (.int .i64 3))) [])))
  (.seq
   (.new (some 6) 30 (.const (.agg #[(.int .i64 0), (.int .u64 0), (.int .i64 0), (.pointer none), (.int .i64 0), (.int .u64 0), (.int .i64 0), (.pointer none), (.int .i64 0), (.int .u64 0), (.int .i64 0), (.pointer none), (.int .i64 0), (.int .u64 0), (.int .i64 0), (.pointer none), (.int .i64 0), (.int .u64 0), (.int .i64 0), (.pointer none), (.int .i64 0), (.int .u64 0), (.int .i64 0), (.pointer none), (.int .i64 0), (.int .u64 0), (.int .i64 0), (.pointer none), (.int .i64 0), (.int .u64 0), (.int .i64 0), (.pointer none)])) [])
  (.seq
   (.seq
    (.call (some 7) 14 [] [])
   (.cond (.un .not (.var 7))
     (.seq
      (.set 2 (.const (.bool false)))
     .ret)
     .skip))
  (.seq
   (.seq
    (.set 8 (.const (.int .i64 0)))
   (.block 0
     (.loop [0, 1, 4, 5, 6, 8]
       (.seq
        (.cond (.pick (.bin .lss (.var 8) (.len false (.var 0))) (.bin .lss (.var 8) (.const (.int .i64 12))) (.const (.bool false)))
          .skip
          (.exit 0))
       (.seq
        (.block 1
          (.seq
           (.set 9 (.conv .i64 (.bin .rem (.conv .u64 (.ld none (.ixSl 1 (.var 0) (.var 8)))) (.const (.int .u64 7)))))
          (.seq
           (.seq
            (.chk [(.upd 1 1 (.upd 0 1 (.const (.agg #[(.int .i64 0), (.int .u64 0), (.int .i64 0), (.pointer none)])) (.const (.int .i64 2))) (.conv .u64 (.var 8)))])
           (.store 4 (.ixArr 8 4 (.var 6) (.var 9)) (.upd 1 1 (.upd 0 1 (.const (.agg #[(.int .i64 0), (.int .u64 0), (.int .i64 0), (.pointer none)])) (.const (.int .i64 2))) (.conv .u64 (.var 8))) []))
          (.seq
           (.seq
            .draw
           (.call (some 10) 15 [(.var 4), (.ld (some 4) (.var 5)), (.bin .sub (.bin .mul (.const (.int .i64 8)) (.var 9)) (.const (.int .i64 64))), (.const (.int .i64 8)), (.ld (some 4) (.ixArr 8 4 (.var 6) (.var 9)))] []))
          (.cond (.bin .neq (.var 10) (.const (.int .i64 0)))
            (.seq
             (.set 2 (.const (.bool false)))
            .ret)
            .skip)))))
       (.set 8 (.bin .add (.var 8) (.const (.int .i64 1)))))))))
  (.seq
   (.set 11 (.bin .sub (.conv .i64 (.bin .rem (.conv .u64 (.var 1)) (.const (.int .u64 8)))) (.const (.int .i64 8))))
  (.seq
   (.seq
    (.seq
     (.chk [(.upd 1 1 (.upd 0 1 (.const (.agg #[(.int .i64 0), (.int .u64 0), (.int .i64 0), (.pointer none)])) (.const (.int .i64 1))) (.const (.int .u64 1)))])
    (.call (some 12) 15 [(.var 4), (.ld (some 4) (.var 5)), (.var 11), (.const (.int .i64 1)), (.upd 1 1 (.upd 0 1 (.const (.agg #[(.int .i64 0), (.int .u64 0), (.int .i64 0), (.pointer none)])) (.const (.int .i64 1))) (.const (.int .u64 1)))] []))
   (.cond (.bin .neq (.var 12) (.const (.int .i64 0)))
     (.seq
      (.set 2 (.const (.bool false)))
     .ret)
     .skip))
  (.seq
   (.seq
    (.set 13 (.const (.int .i64 0)))
   (.block 2
     (.loop [4, 5, 6, 11, 13]
       (.seq
        (.cond (.bin .lss (.var 13) (.const (.int .i64 7)))
          .skip
          (.exit 2))
       (.seq
        (.block 3
          (.seq
           (.seq
            (.call (some 14) 16 [(.var 4), (.ld (some 4) (.var 5)), (.bin .sub (.bin .mul (.const (.int .i64 8)) (.var 13)) (.const (.int .i64 64))), (.const (.int .i64 8))] [])
           (.seq
            (.chk [(.proj 1 (.var 14)), (.proj 0 (.var 14))])
           (.seq
            (.new (some 15) 29 (.const (.agg #[(.int .i64 0), (.int .u64 0), (.int .i64 0), (.pointer none)])) [])
           (.seq
            (.store 4 (.var 15) (.proj 0 (.var 14)) [])
           (.set 16 (.proj 1 (.var 14)))))))
          (.seq
           (.seq
            (.call (some 17) 16 [(.var 4), (.ld (some 4) (.var 5)), (.bin .sub (.bin .mul (.const (.int .i64 8)) (.var 13)) (.const (.int .i64 64))), (.const (.int .i64 4))] [])
           (.seq
            (.chk [(.proj 1 (.var 17)), (.proj 0 (.var 17))])
           (.seq
            (.new (some 18) 29 (.const (.agg #[(.int .i64 0), (.int .u64 0), (.int .i64 0), (.pointer none)])) [])
           (.seq
            (.store 4 (.var 18) (.proj 0 (.var 17)) [])
           (.set 19 (.proj 1 (.var 17)))))))
          (.seq
           .draw
          (.cond (.pick (.pick (.eqx true .bool (.bin .eql (.var 16) (.const (.int .i64 0))) (.bin .neq (.ld none (.offp 0 (.ixArr 8 4 (.var 6) (.var 13)))) (.const (.int .i64 0)))) (.const (.bool true)) (.pick (.bin .eql (.var 16) (.const (.int .i64 0))) (.eqx true (.cons 0 none .int (.cons 1 none .int (.cons 2 none .int (.cons 3 none .ptr .nil)))) (.ld (some 4) (.var 15)) (.ld (some 4) (.ixArr 8 4 (.var 6) (.var 13)))) (.const (.bool false)))) (.const (.bool true)) (.bin .neq (.var 19) (.const (.int .i64 14))))
            (.seq
             (.set 2 (.const (.bool false)))
            .ret)
            .skip)))))
       (.set 13 (.bin .add (.var 13) (.const (.int .i64 1)))))))))
  (.seq
   (.seq
    (.call (some 20) 16 [(.var 4), (.ld (some 4) (.var 5)), (.var 11), (.const (.int .i64 1))] [])
   (.seq
    (.chk [(.proj 1 (.var 20)), (.proj 0 (.var 20))])
   (.seq
    (.new (some 21) 29 (.const (.agg #[(.int .i64 0), (.int .u64 0), (.int .i64 0), (.pointer none)])) [])
   (.seq
    (.store 4 (.var 21) (.proj 0 (.var 20)) [])
   (.set 22 (.proj 1 (.var 20)))))))
  (.seq
   (.set 2 (.bin .eql (.var 22) (.const (.int .i64 0))))
  .ret)))))))))))
abbrev v_tipstafflaw19_RegionKept : List Nat := [0, 1, 4, 19, 5, 6, 7, 21, 8, 9, 53, 10, 64, 11, 76, 12, 13, 85, 14, 15, 115, 16, 17]
abbrev k_tipstafflaw19_RegionKept : List (List Nat) := [[0, 1, 4, 5, 6, 8], [4, 5, 6, 11, 13]]
abbrev r_tipstafflaw19_RegionKept : List Ex := [(.var 2)]
theorem ok_tipstafflaw19_RegionKept : compile Try.prog Try.f3 v_tipstafflaw19_RegionKept k_tipstafflaw19_RegionKept = some (c_tipstafflaw19_RegionKept, r_tipstafflaw19_RegionKept) := by kernel_rfl
end Go.Proofs.Ytihaopoehhnbkaa
