/- Commands of functions, and that they are what the code comes to. -/
import Derived.Test.YthfchnaocbkofaaEngK
import Derived.Test.YthfchnaocbkofaaRows
namespace Go.Proofs.Ythfchnaocbkofaa
open Go.Eng
/- tipstaff/tipstafflaw19.RegionCells -/
def c_tipstafflaw19_RegionCells : Cmd :=
  (.seq
   (.seq
    (.new (some 4) 23 (.var 1) [])
   (.set 3 (.const (.bool false))))
  (.seq
   (.seq
    (.row (some 5) 5 0 (.const (.agg #[])) [])
   (.seq
    (.bi (some 6) .append [22, 22] 22 [(.var 5), (.slSl 1 (.var 0) (.const (.int .i64 0)) (.mn (.len false (.var 0)) (.const (.int .i64 63))))] [])
   (.seq
    (.row (some 7) 5 1 (.upd 0 1 (.const (.agg #[(.int .u8 0)])) (.const (.int .u8 1))) [])
   (.seq
    (.bi (some 8) .append [22, 22] 22 [(.var 6), (.var 7)] [])
   (.set 0 (.var 8))))))
  (.seq
   (.seq
    (.chk [(.upd 3 1 (.upd 2 1 (.upd 1 1 (.upd 0 1 (.const (.agg (Array.replicate 4 (.int .i64 0)))) (.const (.int .i64 0))) (.const (.int .i64 4))) (.len false (.var 0))) (.const (.int .i64 1)))])
   (.seq
    (.call (some 9) 4 [(.upd 3 1 (.upd 2 1 (.upd 1 1 (.upd 0 1 (.const (.agg (Array.replicate 4 (.int .i64 0)))) (.const (.int .i64 0))) (.const (.int .i64 4))) (.len false (.var 0))) (.const (.int .i64 1)))] [])
   (.seq
    (.chk [(.proj 1 (.var 9))])
   (.seq
    (.set 10 (.proj 0 (.var 9)))
   (.set 11 (.proj 1 (.var 9)))))))
  (.seq
   (.seq
    (.seq
     (.call (some 12) 5 [] [])
    (.seq
     (.chk [(.pick (.pick (.un .not (.var 12)) (.const (.bool true)) (.bin .neq (.var 11) (.const (.int .i64 0)))) (.const (.bool false)) (.var 10))])
    (.seq
     (.cond (.pick (.pick (.un .not (.var 12)) (.const (.bool true)) (.bin .neq (.var 11) (.const (.int .i64 0)))) (.const (.bool false)) (.const (.bool true)))
       (.row (some 13) 5 4 (.upd 3 1 (.upd 2 1 (.upd 1 1 (.upd 0 1 (.const (.agg (Array.replicate 4 (.int .u8 0)))) (.const (.int .u8 0))) (.const (.int .u8 0))) (.const (.int .u8 0))) (.const (.int .u8 0))) [])
       (.clr [13]))
    (.seq
     (.chk [(.pick (.pick (.un .not (.var 12)) (.const (.bool true)) (.bin .neq (.var 11) (.const (.int .i64 0)))) (.const (.bool false)) (.var 0))])
    (.cond (.pick (.pick (.un .not (.var 12)) (.const (.bool true)) (.bin .neq (.var 11) (.const (.int .i64 0)))) (.const (.bool false)) (.const (.bool true)))
      (.call (some 14) 6 [(.var 10), (.var 13), (.var 0), (.const (.int .u64 0))] [])
      (.clr [14]))))))
   (.cond (.pick (.pick (.un .not (.var 12)) (.const (.bool true)) (.bin .neq (.var 11) (.const (.int .i64 0)))) (.const (.bool true)) (.bin .neq (.var 14) (.const (.int .i64 0))))
     (.seq
      (.set 3 (.const (.bool false)))
     .ret)
     .skip))
  (.seq
   (.seq
    (.chk [(.var 10)])
   (.seq
    (.row (some 15) 5 4 (.upd 3 1 (.upd 2 1 (.upd 1 1 (.upd 0 1 (.const (.agg (Array.replicate 4 (.int .u8 0)))) (.const (.int .u8 0))) (.const (.int .u8 0))) (.const (.int .u8 0))) (.const (.int .u8 0))) [])
   (.seq
    (.call (some 16) 7 [(.var 10), (.var 15)] [])
   (.seq
    (.chk [(.proj 1 (.var 16))])
   (.seq
    (.set 17 (.proj 0 (.var 16)))
   (.set 18 (.proj 1 (.var 16))))))))
  (.seq
   (.seq
    (.chk [(.upd 0 1 (.const (.agg (Array.replicate 32 (.int .u8 0)))) (.const (.int .u8 7)))])
   (.seq
    (.row (some 19) 24 1 (.upd 0 1 (.const (.agg #[(.pointer none)])) (.var 10)) [])
   (.seq
    (.call (some 20) 8 [(.upd 0 1 (.const (.agg (Array.replicate 32 (.int .u8 0)))) (.const (.int .u8 7))), (.var 19)] [])
   (.set 21 (.var 20)))))
  (.seq
   (.seq
    (.seq
     (.chk [(.pick (.pick (.bin .neq (.var 18) (.const (.int .i64 0))) (.const (.bool true)) (.isnil 0 false (.var 21))) (.const (.bool false)) (.var 21))])
    (.seq
     (.cond (.pick (.pick (.bin .neq (.var 18) (.const (.int .i64 0))) (.const (.bool true)) (.isnil 0 false (.var 21))) (.const (.bool false)) (.const (.bool true)))
       (.call (some 22) 9 [(.var 21), (.const (.int .i64 0))] [])
       (.clr [22]))
    (.seq
     (.set 24 (.pick (.pick (.bin .neq (.var 18) (.const (.int .i64 0))) (.const (.bool true)) (.isnil 0 false (.var 21))) (.const (.bool true)) (.eqx true .ptr (.var 22) (.var 10))))
    (.seq
     (.chk [(.pick (.var 24) (.const (.bool false)) (.var 21))])
    (.seq
     (.cond (.pick (.var 24) (.const (.bool false)) (.const (.bool true)))
       (.call (some 23) 9 [(.var 21), (.const (.int .i64 1))] [])
       (.clr [23]))
    (.seq
     (.set 26 (.pick (.var 24) (.const (.bool true)) (.isnil 0 true (.var 23))))
    (.seq
     (.chk [(.pick (.var 26) (.const (.bool false)) (.var 21))])
    (.cond (.pick (.var 26) (.const (.bool false)) (.const (.bool true)))
      (.call (some 25) 9 [(.var 21), (.const (.int .i64 (-1)))] [])
      (.clr [25])))))))))
   (.cond (.pick (.var 26) (.const (.bool true)) (.isnil 0 true (.var 25)))
     (.seq
      (.set 3 (.const (.bool false)))
     .ret)
     .skip))
  (.seq
   (.seq
    .draw
   (.seq
    (.chk [(.bin .rem (.ld none (.ixArr 2 1 (.var 4) (.const (.int .i64 1)))) (.const (.int .i64 100)))])
   (.seq
    (.set 27 (.bin .rem (.ld none (.ixArr 2 1 (.var 4) (.const (.int .i64 0)))) (.const (.int .i64 100))))
   (.set 28 (.bin .rem (.ld none (.ixArr 2 1 (.var 4) (.const (.int .i64 1)))) (.const (.int .i64 100)))))))
  (.seq
   (.seq
    (.call (some 29) 10 [(.var 2)] [])
   (.set 30 (.var 29)))
  (.seq
   (.seq
    (.set 32 (.upd 3 1 (.upd 1 1 (.upd 0 1 (.const (.agg #[(.int .i64 0), (.int .u64 0), (.int .i64 0), (.pointer none)])) (.const (.int .i64 5))) (.conv .u64 (.var 27))) (.var 17)))
   (.seq
    (.new (some 31) 43 (.const (.agg #[(.int .i64 0), (.int .u64 0), (.int .i64 0), (.pointer none)])) [])
   (.store 4 (.var 31) (.var 32) [])))
  (.seq
   (.set 33 (.bin .add (.var 27) (.var 28)))
  (.seq
   (.set 34 (.pick (.bin .geq (.var 33) (.const (.int .i64 0))) (.bin .leq (.bin .add (.var 33) (.var 30)) (.len false (.var 0))) (.const (.bool false))))
  (.seq
   (.seq
    (.call (some 35) 11 [(.var 21), (.ld (some 4) (.var 31)), (.var 28), (.var 30)] [])
   (.seq
    (.chk [(.proj 1 (.var 35)), (.proj 0 (.var 35))])
   (.seq
    (.new (some 36) 43 (.const (.agg #[(.int .i64 0), (.int .u64 0), (.int .i64 0), (.pointer none)])) [])
   (.seq
    (.store 4 (.var 36) (.proj 0 (.var 35)) [])
   (.set 37 (.proj 1 (.var 35)))))))
  (.seq
   (.seq
    (.chk [(.upd 1 1 (.upd 0 1 (.const (.agg #[(.int .i64 0), (.int .u64 0), (.int .i64 0), (.pointer none)])) (.const (.int .i64 1))) (.const (.int .u64 12370169555311111083)))])
   (.seq
    (.call (some 38) 12 [(.var 21), (.ld (some 4) (.var 31)), (.var 28), (.var 30), (.upd 1 1 (.upd 0 1 (.const (.agg #[(.int .i64 0), (.int .u64 0), (.int .i64 0), (.pointer none)])) (.const (.int .i64 1))) (.const (.int .u64 12370169555311111083)))] [])
   (.set 39 (.var 38))))
  (.seq
   (.seq
    (.chk [(.upd 0 1 (.const (.agg #[(.int .i64 0), (.int .u64 0), (.int .i64 0), (.pointer none)])) (.const (.int .i64 4)))])
   (.seq
    (.call (some 40) 12 [(.var 21), (.ld (some 4) (.var 31)), (.var 28), (.const (.int .i64 8)), (.upd 0 1 (.const (.agg #[(.int .i64 0), (.int .u64 0), (.int .i64 0), (.pointer none)])) (.const (.int .i64 4)))] [])
   (.set 41 (.var 40))))
  (.seq
   (.cond (.pick (.pick (.eqx true .bool (.bin .eql (.var 37) (.const (.int .i64 0))) (.var 34)) (.const (.bool true)) (.eqx true .bool (.bin .eql (.var 39) (.const (.int .i64 0))) (.var 34))) (.const (.bool true)) (.bin .neq (.var 41) (.const (.int .i64 14))))
     (.seq
      (.set 3 (.const (.bool false)))
     .ret)
     .skip)
  (.seq
   (.cond (.var 34)
     (.seq
      (.set 42 (.const (.int .u64 0)))
     (.seq
      (.seq
       (.set 43 (.bin .sub (.var 30) (.const (.int .i64 1))))
      (.block 0
        (.loop [0, 10, 21, 27, 28, 30, 31, 33, 34, 36, 42, 43]
          (.seq
           (.cond (.bin .geq (.var 43) (.const (.int .i64 0)))
             .skip
             (.exit 0))
          (.seq
           (.block 1
             (.seq
              (.set 42 (.bin .or (.bin .shl (.var 42) (.const (.int .u64 8))) (.conv .u64 (.ld none (.ixSl 1 (.var 0) (.bin .add (.var 33) (.var 43)))))))
             (.store 1 (.ixSl 1 (.var 0) (.bin .add (.var 33) (.var 43))) (.const (.int .u8 171)) [])))
          (.set 43 (.bin .sub (.var 43) (.const (.int .i64 1)))))))))
     (.seq
      (.chk [(.eqx true (.cons 0 none .int (.cons 1 none .int (.cons 2 none .int (.cons 3 none .ptr .nil)))) (.ld (some 4) (.var 36)) (.upd 1 1 (.upd 0 1 (.const (.agg #[(.int .i64 0), (.int .u64 0), (.int .i64 0), (.pointer none)])) (.const (.int .i64 1))) (.var 42))), (.upd 1 1 (.upd 0 1 (.const (.agg #[(.int .i64 0), (.int .u64 0), (.int .i64 0), (.pointer none)])) (.const (.int .i64 1))) (.var 42))])
     (.cond (.eqx true (.cons 0 none .int (.cons 1 none .int (.cons 2 none .int (.cons 3 none .ptr .nil)))) (.ld (some 4) (.var 36)) (.upd 1 1 (.upd 0 1 (.const (.agg #[(.int .i64 0), (.int .u64 0), (.int .i64 0), (.pointer none)])) (.const (.int .i64 1))) (.var 42)))
       (.seq
        (.set 3 (.const (.bool false)))
       .ret)
       .skip))))
     .skip)
  (.seq
   (.seq
    (.chk [(.var 10)])
   (.seq
    (.row (some 44) 5 4 (.upd 3 1 (.upd 2 1 (.upd 1 1 (.upd 0 1 (.const (.agg (Array.replicate 4 (.int .u8 0)))) (.const (.int .u8 0))) (.const (.int .u8 0))) (.const (.int .u8 0))) (.const (.int .u8 0))) [])
   (.seq
    (.call (some 45) 13 [(.var 10), (.var 44)] [])
   (.seq
    (.chk [(.proj 1 (.var 45))])
   (.seq
    (.set 46 (.proj 0 (.var 45)))
   (.set 47 (.proj 1 (.var 45))))))))
  (.seq
   (.seq
    (.seq
     (.set 49 (.pick (.bin .neq (.var 47) (.const (.int .i64 0))) (.const (.bool true)) (.bin .neq (.bstr (.var 46)) (.bstr (.var 0)))))
    (.seq
     (.chk [(.pick (.var 49) (.const (.bool false)) (.var 10))])
    (.cond (.pick (.var 49) (.const (.bool false)) (.const (.bool true)))
      (.call (some 48) 14 [(.var 10)] [])
      (.clr [48]))))
   (.cond (.pick (.var 49) (.const (.bool true)) (.bin .neq (.var 48) (.const (.int .i64 0))))
     (.seq
      (.set 3 (.const (.bool false)))
     .ret)
     .skip))
  (.seq
   (.seq
    (.call (some 50) 11 [(.var 21), (.ld (some 4) (.var 31)), (.var 28), (.var 30)] [])
   (.seq
    (.chk [(.proj 1 (.var 50)), (.proj 0 (.var 50))])
   (.seq
    (.new (some 51) 43 (.const (.agg #[(.int .i64 0), (.int .u64 0), (.int .i64 0), (.pointer none)])) [])
   (.seq
    (.store 4 (.var 51) (.proj 0 (.var 50)) [])
   (.set 52 (.proj 1 (.var 50)))))))
  (.seq
   (.seq
    (.seq
     (.set 54 (.pick (.eqx true .bool (.bin .eql (.var 52) (.const (.int .i64 0))) (.var 34)) (.const (.bool true)) (.pick (.var 34) (.bin .neq (.ld none (.offp 0 (.var 51))) (.const (.int .i64 1))) (.const (.bool false)))))
    (.seq
     (.chk [(.pick (.var 54) (.const (.bool false)) (.upd 0 1 (.const (.agg #[(.int .i64 0), (.int .u64 0), (.int .i64 0), (.pointer none)])) (.const (.int .i64 1)))), (.pick (.var 54) (.const (.bool false)) (.var 30)), (.pick (.var 54) (.const (.bool false)) (.var 28)), (.pick (.var 54) (.const (.bool false)) (.ld (some 4) (.var 31))), (.pick (.var 54) (.const (.bool false)) (.var 21))])
    (.seq
     (.cond (.pick (.var 54) (.const (.bool false)) (.const (.bool true)))
       (.call (some 53) 12 [(.var 21), (.ld (some 4) (.var 31)), (.var 28), (.var 30), (.upd 0 1 (.const (.agg #[(.int .i64 0), (.int .u64 0), (.int .i64 0), (.pointer none)])) (.const (.int .i64 1)))] [])
       (.clr [53]))
    (.seq
     (.set 58 (.pick (.var 54) (.const (.bool true)) (.bin .neq (.var 53) (.const (.int .i64 14)))))
    (.seq
     (.cond (.pick (.var 58) (.const (.bool false)) (.const (.bool true)))
       (.set 56 (.var 21))
       (.clr [56]))
    (.seq
     (.cond (.pick (.var 58) (.const (.bool false)) (.const (.bool true)))
       (.set 57 (.ld (some 4) (.var 31)))
       (.clr [57]))
    (.seq
     (.cond (.pick (.var 58) (.const (.bool false)) (.const (.bool true)))
       (.row (some 55) 5 1 (.upd 0 1 (.const (.agg #[(.int .u8 0)])) (.const (.int .u8 1))) [])
       (.clr [55]))
    (.cond (.pick (.var 58) (.const (.bool false)) (.const (.bool true)))
      (.call (some 59) 15 [(.var 56), (.var 57), (.var 55)] [])
      (.clr [59])))))))))
   (.cond (.pick (.var 58) (.const (.bool true)) (.bin .neq (.var 59) (.const (.int .i64 14))))
     (.seq
      (.set 3 (.const (.bool false)))
     .ret)
     .skip))
  (.seq
   (.seq
    (.set 61 (.upd 1 1 (.upd 0 1 (.const (.agg #[(.int .i64 0), (.int .u64 0), (.int .i64 0), (.pointer none)])) (.const (.int .i64 2))) (.conv .u64 (.var 27))))
   (.seq
    (.new (some 60) 43 (.const (.agg #[(.int .i64 0), (.int .u64 0), (.int .i64 0), (.pointer none)])) [])
   (.store 4 (.var 60) (.var 61) [])))
  (.seq
   (.seq
    (.call (some 62) 11 [(.var 21), (.ld (some 4) (.var 60)), (.var 28), (.const (.int .i64 1))] [])
   (.seq
    (.chk [(.proj 1 (.var 62)), (.proj 0 (.var 62))])
   (.seq
    (.new (some 63) 43 (.const (.agg #[(.int .i64 0), (.int .u64 0), (.int .i64 0), (.pointer none)])) [])
   (.seq
    (.store 4 (.var 63) (.proj 0 (.var 62)) [])
   (.set 64 (.proj 1 (.var 62)))))))
  (.seq
   (.seq
    (.set 66 (.pick (.eqx false .bool (.bin .eql (.var 64) (.const (.int .i64 0))) (.pick (.bin .geq (.var 33) (.const (.int .i64 0))) (.bin .lss (.var 33) (.const (.int .i64 32))) (.const (.bool false)))) (.pick (.bin .neq (.var 64) (.const (.int .i64 0))) (.const (.bool true)) (.bin .eql (.ld none (.offp 0 (.var 63))) (.const (.int .i64 1)))) (.const (.bool false))))
   (.seq
    (.chk [(.pick (.var 66) (.upd 0 1 (.const (.agg #[(.int .i64 0), (.int .u64 0), (.int .i64 0), (.pointer none)])) (.const (.int .i64 1))) (.const (.bool false))), (.pick (.var 66) (.var 28) (.const (.bool false))), (.pick (.var 66) (.ld (some 4) (.var 60)) (.const (.bool false))), (.pick (.var 66) (.var 21) (.const (.bool false)))])
   (.seq
    (.cond (.pick (.var 66) (.const (.bool true)) (.const (.bool false)))
      (.call (some 65) 12 [(.var 21), (.ld (some 4) (.var 60)), (.var 28), (.const (.int .i64 1)), (.upd 0 1 (.const (.agg #[(.int .i64 0), (.int .u64 0), (.int .i64 0), (.pointer none)])) (.const (.int .i64 1)))] [])
      (.clr [65]))
   (.seq
    (.set 68 (.pick (.var 66) (.bin .eql (.var 65) (.const (.int .i64 14))) (.const (.bool false))))
   (.seq
    (.chk [(.pick (.var 68) (.ld (some 4) (.var 60)) (.const (.bool false))), (.pick (.var 68) (.var 21) (.const (.bool false)))])
   (.seq
    (.cond (.pick (.var 68) (.const (.bool true)) (.const (.bool false)))
      (.call (some 67) 15 [(.var 21), (.ld (some 4) (.var 60)), (.const (.slice none 0 0))] [])
      (.clr [67]))
   (.set 3 (.pick (.var 68) (.bin .eql (.var 67) (.const (.int .i64 14))) (.const (.bool false))))))))))
  .ret))))))))))))))))))))))))
abbrev v_tipstafflaw19_RegionCells : List Nat := [0, 1, 2, 6, 4, 31, 37, 38, 39, 44, 7, 8, 47, 55, 57, 62, 63, 9, 10, 68, 69, 11, 78, 84, 82, 89, 87, 12, 13, 99, 14, 15, 103, 16, 17, 122, 18, 19, 130, 20, 135, 21, 22, 23, 178, 179, 24, 25, 193, 191, 201, 26, 27, 222, 216, 228, 226, 227, 225, 229, 28, 234, 239, 29, 30, 265, 260, 271, 268]
abbrev k_tipstafflaw19_RegionCells : List (List Nat) := [[0, 10, 21, 27, 28, 30, 31, 33, 34, 36, 42, 43]]
abbrev r_tipstafflaw19_RegionCells : List Ex := [(.var 3)]
theorem ok_tipstafflaw19_RegionCells : compile Try.prog Try.f3 v_tipstafflaw19_RegionCells k_tipstafflaw19_RegionCells = some (c_tipstafflaw19_RegionCells, r_tipstafflaw19_RegionCells) := by kernel_rfl
end Go.Proofs.Ythfchnaocbkofaa
