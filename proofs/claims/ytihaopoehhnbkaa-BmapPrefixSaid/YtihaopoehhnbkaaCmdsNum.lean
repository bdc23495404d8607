/- Commands of functions, and that they are what the code comes to. -/
import Derived.Test.YtihaopoehhnbkaaEngK
import Derived.Test.YtihaopoehhnbkaaRows
namespace Go.Proofs.Ytihaopoehhnbkaa
open Go.Eng
/- tipstaff/tipstafflaw19.RegionNumbers -/
def c_tipstafflaw19_RegionNumbers : Cmd :=
  (.seq
   (.set 3 (.const (.bool false)))
  (.seq
   (.seq
    (.call (some 4) 17 [(.var 1)] [])
   (.set 5 (.var 4)))
  (.seq
   (.set 6 (.bin .sub (.conv .i64 (.bin .rem (.conv .u64 (.var 0)) (.conv .u64 (.bin .sub (.const (.int .i64 65)) (.var 5))))) (.const (.int .i64 64))))
  (.seq
   (.seq
    (.call (some 7) 13 [(.const (.agg (Array.replicate 32 (.int .u8 0)))), (.const (.slice none 0 0))] [])
   (.set 8 (.var 7)))
  (.seq
   (.seq
    (.chk [(.upd 0 1 (.const (.agg #[(.int .i64 0), (.int .u64 0), (.int .i64 0), (.pointer none)])) (.const (.int .i64 3)))])
   (.seq
    (.new (some 9) 29 (.const (.agg #[(.int .i64 0), (.int .u64 0), (.int .i64 0), (.pointer none)])) [])
   (.store 4 (.var 9) (.upd 0 1 (.const (.agg #[(.int .i64 0), (.int .u64 0), (.int .i64 0), (.pointer none)])) (.const (.int .i64 3))) [])))
  (.seq
   (.seq
    (.seq
     (.call (some 10) 14 [] [])
    (.seq
     (.chk [(.pick (.un .not (.var 10)) (.const (.bool false)) (.upd 1 1 (.upd 0 1 (.const (.agg #[(.int .i64 0), (.int .u64 0), (.int .i64 0), (.pointer none)])) (.const (.int .i64 1))) (.var 2))), (.pick (.un .not (.var 10)) (.const (.bool false)) (.var 5)), (.pick (.un .not (.var 10)) (.const (.bool false)) (.var 6)), (.pick (.un .not (.var 10)) (.const (.bool false)) (.ld (some 4) (.var 9))), (.pick (.un .not (.var 10)) (.const (.bool false)) (.var 8))])
    (.cond (.pick (.un .not (.var 10)) (.const (.bool false)) (.const (.bool true)))
      (.call (some 11) 15 [(.var 8), (.ld (some 4) (.var 9)), (.var 6), (.var 5), (.upd 1 1 (.upd 0 1 (.const (.agg #[(.int .i64 0), (.int .u64 0), (.int .i64 0), (.pointer none)])) (.const (.int .i64 1))) (.var 2))] [])
      (.clr [11]))))
   (.cond (.pick (.un .not (.var 10)) (.const (.bool true)) (.bin .neq (.var 11) (.const (.int .i64 0))))
     (.seq
      (.set 3 (.const (.bool false)))
     .ret)
     .skip))
  (.seq
   (.set 12 (.var 2))
  (.seq
   (.cond (.bin .lss (.var 5) (.const (.int .i64 8)))
     (.set 12 (.bin .rem (.var 2) (.bin .shl (.const (.int .u64 1)) (.bin .mul (.const (.int .i64 8)) (.var 5)))))
     .skip)
  (.seq
   (.seq
    (.chk [(.upd 1 1 (.upd 0 1 (.const (.agg #[(.int .i64 0), (.int .u64 0), (.int .i64 0), (.pointer none)])) (.const (.int .i64 3))) (.conv .u64 (.var 6)))])
   (.seq
    (.call (some 13) 16 [(.var 8), (.upd 1 1 (.upd 0 1 (.const (.agg #[(.int .i64 0), (.int .u64 0), (.int .i64 0), (.pointer none)])) (.const (.int .i64 3))) (.conv .u64 (.var 6))), (.const (.int .i64 0)), (.var 5)] [])
   (.seq
    (.chk [(.proj 1 (.var 13)), (.proj 0 (.var 13))])
   (.seq
    (.new (some 14) 29 (.const (.agg #[(.int .i64 0), (.int .u64 0), (.int .i64 0), (.pointer none)])) [])
   (.seq
    (.store 4 (.var 14) (.proj 0 (.var 13)) [])
   (.set 15 (.proj 1 (.var 13))))))))
  (.seq
   (.seq
    (.chk [(.upd 1 1 (.upd 0 1 (.const (.agg #[(.int .i64 0), (.int .u64 0), (.int .i64 0), (.pointer none)])) (.const (.int .i64 3))) (.conv .u64 (.var 6)))])
   (.seq
    (.call (some 16) 18 [(.var 8), (.upd 1 1 (.upd 0 1 (.const (.agg #[(.int .i64 0), (.int .u64 0), (.int .i64 0), (.pointer none)])) (.const (.int .i64 3))) (.conv .u64 (.var 6))), (.var 5)] [])
   (.seq
    (.chk [(.proj 1 (.var 16))])
   (.seq
    (.set 17 (.proj 0 (.var 16)))
   (.set 18 (.proj 1 (.var 16)))))))
  (.seq
   (.cond (.pick (.pick (.pick (.bin .neq (.var 15) (.const (.int .i64 0))) (.const (.bool true)) (.bin .neq (.var 18) (.const (.int .i64 0)))) (.const (.bool true)) (.bin .neq (.ld none (.offp 1 (.var 14))) (.var 12))) (.const (.bool true)) (.bin .neq (.len false (.var 17)) (.var 5)))
     (.seq
      (.set 3 (.const (.bool false)))
     .ret)
     .skip)
  (.seq
   (.seq
    (.set 19 (.const (.int .i64 0)))
   (.block 0
     (.loop [2, 5, 6, 8, 9, 17, 19]
       (.seq
        (.cond (.bin .lss (.var 19) (.var 5))
          .skip
          (.exit 0))
       (.seq
        (.block 1
          (.seq
           (.seq
            (.call (some 20) 16 [(.var 8), (.ld (some 4) (.var 9)), (.bin .add (.var 6) (.var 19)), (.const (.int .i64 1))] [])
           (.seq
            (.chk [(.proj 1 (.var 20)), (.proj 0 (.var 20))])
           (.seq
            (.new (some 21) 29 (.const (.agg #[(.int .i64 0), (.int .u64 0), (.int .i64 0), (.pointer none)])) [])
           (.seq
            (.store 4 (.var 21) (.proj 0 (.var 20)) [])
           (.set 22 (.proj 1 (.var 20)))))))
          (.seq
           .draw
          (.cond (.pick (.pick (.bin .neq (.var 22) (.const (.int .i64 0))) (.const (.bool true)) (.bin .neq (.ld none (.offp 1 (.var 21))) (.bin .rem (.bin .shr (.var 2) (.bin .mul (.const (.int .i64 8)) (.var 19))) (.const (.int .u64 256))))) (.const (.bool true)) (.bin .neq (.ld none (.ixSl 1 (.var 17) (.var 19))) (.conv .u8 (.ld none (.offp 1 (.var 21))))))
            (.seq
             (.set 3 (.const (.bool false)))
            .ret)
            .skip))))
       (.set 19 (.bin .add (.var 19) (.const (.int .i64 1)))))))))
  (.seq
   (.set 3 (.const (.bool true)))
  .ret)))))))))))))
abbrev v_tipstafflaw19_RegionNumbers : List Nat := [0, 1, 2, 6, 20, 7, 8, 30, 9, 10, 32, 41, 11, 58, 12, 13, 67, 14, 15, 16, 99, 17, 18]
abbrev k_tipstafflaw19_RegionNumbers : List (List Nat) := [[2, 5, 6, 8, 9, 17, 19]]
abbrev r_tipstafflaw19_RegionNumbers : List Ex := [(.var 3)]
theorem ok_tipstafflaw19_RegionNumbers : compile Try.prog Try.f4 v_tipstafflaw19_RegionNumbers k_tipstafflaw19_RegionNumbers = some (c_tipstafflaw19_RegionNumbers, r_tipstafflaw19_RegionNumbers) := by kernel_rfl

/- tipstaff/tipstafflaw19.size64 -/
def c_tipstafflaw19_size64 : Cmd :=
  (.seq
   (.set 1 (.const (.int .i64 0)))
  (.seq
   (.seq
    (.row (some 2) 3 4 (.upd 3 1 (.upd 2 1 (.upd 1 1 (.upd 0 1 (.const (.agg (Array.replicate 4 (.int .i64 0)))) (.const (.int .i64 1))) (.const (.int .i64 2))) (.const (.int .i64 4))) (.const (.int .i64 8))) [])
   (.set 1 (.ld none (.ixSl 1 (.var 2) (.conv .i64 (.bin .rem (.conv .u64 (.var 0)) (.const (.int .u64 4))))))))
  .ret))
abbrev v_tipstafflaw19_size64 : List Nat := [0, 2, 3]
abbrev k_tipstafflaw19_size64 : List (List Nat) := []
abbrev r_tipstafflaw19_size64 : List Ex := [(.var 1)]
theorem ok_tipstafflaw19_size64 : compile Try.prog Try.f17 v_tipstafflaw19_size64 k_tipstafflaw19_size64 = some (c_tipstafflaw19_size64, r_tipstafflaw19_size64) := by kernel_rfl
end Go.Proofs.Ytihaopoehhnbkaa
