/- Commands of functions, and that they are what the code comes to. -/
import Derived.Test.YthfchnaocbkofaaEngK
import Derived.Test.YthfchnaocbkofaaRows
namespace Go.Proofs.Ythfchnaocbkofaa
open Go.Eng
/- tipstaff/tipstafflaw19.saves -/
def c_tipstafflaw19_saves : Cmd :=
  (.seq
   (.set 0 (.const (.bool false)))
  (.seq
   (.seq
    (.chk [(.upd 0 1 (.const (.agg (Array.replicate 32 (.int .u8 0)))) (.const (.int .u8 1)))])
   (.seq
    (.call (some 1) 8 [(.upd 0 1 (.const (.agg (Array.replicate 32 (.int .u8 0)))) (.const (.int .u8 1))), (.const (.slice none 0 0))] [])
   (.set 2 (.var 1))))
  (.seq
   (.seq
    (.chk [(.upd 0 1 (.const (.agg #[(.int .i64 0), (.int .u64 0), (.int .i64 0), (.pointer none)])) (.const (.int .i64 3)))])
   (.seq
    (.new (some 3) 43 (.const (.agg #[(.int .i64 0), (.int .u64 0), (.int .i64 0), (.pointer none)])) [])
   (.store 4 (.var 3) (.upd 0 1 (.const (.agg #[(.int .i64 0), (.int .u64 0), (.int .i64 0), (.pointer none)])) (.const (.int .i64 3))) [])))
  (.seq
   (.seq
    (.chk [(.upd 1 1 (.upd 0 1 (.const (.agg #[(.int .i64 0), (.int .u64 0), (.int .i64 0), (.pointer none)])) (.const (.int .i64 1))) (.const (.int .u64 5)))])
   (.seq
    (.call (some 4) 12 [(.var 2), (.ld (some 4) (.var 3)), (.const (.int .i64 (-8))), (.const (.int .i64 8)), (.upd 1 1 (.upd 0 1 (.const (.agg #[(.int .i64 0), (.int .u64 0), (.int .i64 0), (.pointer none)])) (.const (.int .i64 1))) (.const (.int .u64 5)))] [])
   (.set 5 (.var 4))))
  (.seq
   (.seq
    (.call (some 6) 11 [(.var 2), (.ld (some 4) (.var 3)), (.const (.int .i64 (-8))), (.const (.int .i64 2))] [])
   (.seq
    (.chk [(.proj 1 (.var 6)), (.proj 0 (.var 6))])
   (.seq
    (.new (some 7) 43 (.const (.agg #[(.int .i64 0), (.int .u64 0), (.int .i64 0), (.pointer none)])) [])
   (.seq
    (.store 4 (.var 7) (.proj 0 (.var 6)) [])
   (.set 8 (.proj 1 (.var 6)))))))
  (.seq
   (.seq
    (.call (some 9) 11 [(.var 2), (.ld (some 4) (.var 3)), (.const (.int .i64 (-16))), (.const (.int .i64 2))] [])
   (.seq
    (.chk [(.proj 1 (.var 9)), (.proj 0 (.var 9))])
   (.seq
    (.new (some 10) 43 (.const (.agg #[(.int .i64 0), (.int .u64 0), (.int .i64 0), (.pointer none)])) [])
   (.seq
    (.store 4 (.var 10) (.proj 0 (.var 9)) [])
   (.set 11 (.proj 1 (.var 9)))))))
  (.seq
   (.seq
    (.chk [(.upd 0 1 (.const (.agg #[(.int .i64 0), (.int .u64 0), (.int .i64 0), (.pointer none)])) (.const (.int .i64 2)))])
   (.seq
    (.call (some 12) 11 [(.var 2), (.upd 0 1 (.const (.agg #[(.int .i64 0), (.int .u64 0), (.int .i64 0), (.pointer none)])) (.const (.int .i64 2))), (.const (.int .i64 0)), (.const (.int .i64 1))] [])
   (.seq
    (.chk [(.proj 1 (.var 12)), (.proj 0 (.var 12))])
   (.seq
    (.new (some 13) 43 (.const (.agg #[(.int .i64 0), (.int .u64 0), (.int .i64 0), (.pointer none)])) [])
   (.seq
    (.store 4 (.var 13) (.proj 0 (.var 12)) [])
   (.set 14 (.proj 1 (.var 12))))))))
  (.seq
   (.seq
    (.chk [(.pick (.pick (.pick (.pick (.pick (.bin .eql (.var 5) (.const (.int .i64 0))) (.bin .eql (.var 8) (.const (.int .i64 0))) (.const (.bool false))) (.eqx false (.cons 0 none .int (.cons 1 none .int (.cons 2 none .int (.cons 3 none .ptr .nil)))) (.ld (some 4) (.var 7)) (.upd 1 1 (.upd 0 1 (.const (.agg #[(.int .i64 0), (.int .u64 0), (.int .i64 0), (.pointer none)])) (.const (.int .i64 1))) (.const (.int .u64 5)))) (.const (.bool false))) (.bin .eql (.var 11) (.const (.int .i64 14))) (.const (.bool false))) (.bin .eql (.var 14) (.const (.int .i64 0))) (.const (.bool false))) (.bin .eql (.ld none (.offp 1 (.var 13))) (.const (.int .u64 1))) (.const (.bool false))), (.pick (.pick (.pick (.pick (.pick (.bin .eql (.var 5) (.const (.int .i64 0))) (.bin .eql (.var 8) (.const (.int .i64 0))) (.const (.bool false))) (.eqx false (.cons 0 none .int (.cons 1 none .int (.cons 2 none .int (.cons 3 none .ptr .nil)))) (.ld (some 4) (.var 7)) (.upd 1 1 (.upd 0 1 (.const (.agg #[(.int .i64 0), (.int .u64 0), (.int .i64 0), (.pointer none)])) (.const (.int .i64 1))) (.const (.int .u64 5)))) (.const (.bool false))) (.bin .eql (.var 11) (.const (.int .i64 14))) (.const (.bool false))) (.bin .eql (.var 14) (.const (.int .i64 0))) (.const (.bool false))) (.bin .eql (.ld none (.offp 1 (.var 13))) (.const (.int .u64 1))) (.const (.bool false))), (.pick (.pick (.pick (.pick (.pick (.bin .eql (.var 5) (.const (.int .i64 0))) (.bin .eql (.var 8) (.const (.int .i64 0))) (.const (.bool false))) (.eqx false (.cons 0 none .int (.cons 1 none .int (.cons 2 none .int (.cons 3 none .ptr .nil)))) (.ld (some 4) (.var 7)) (.upd 1 1 (.upd 0 1 (.const (.agg #[(.int .i64 0), (.int .u64 0), (.int .i64 0), (.pointer none)])) (.const (.int .i64 1))) (.const (.int .u64 5)))) (.const (.bool false))) (.bin .eql (.var 11) (.const (.int .i64 14))) (.const (.bool false))) (.bin .eql (.var 14) (.const (.int .i64 0))) (.const (.bool false))) (.ld none (.offp 1 (.var 13))) (.const (.bool false))), (.pick (.pick (.pick (.pick (.pick (.bin .eql (.var 5) (.const (.int .i64 0))) (.bin .eql (.var 8) (.const (.int .i64 0))) (.const (.bool false))) (.eqx false (.cons 0 none .int (.cons 1 none .int (.cons 2 none .int (.cons 3 none .ptr .nil)))) (.ld (some 4) (.var 7)) (.upd 1 1 (.upd 0 1 (.const (.agg #[(.int .i64 0), (.int .u64 0), (.int .i64 0), (.pointer none)])) (.const (.int .i64 1))) (.const (.int .u64 5)))) (.const (.bool false))) (.bin .eql (.var 11) (.const (.int .i64 14))) (.const (.bool false))) (.bin .eql (.var 14) (.const (.int .i64 0))) (.const (.bool false))) (.offp 1 (.var 13)) (.const (.bool false))), (.pick (.pick (.pick (.pick (.bin .eql (.var 5) (.const (.int .i64 0))) (.bin .eql (.var 8) (.const (.int .i64 0))) (.const (.bool false))) (.eqx false (.cons 0 none .int (.cons 1 none .int (.cons 2 none .int (.cons 3 none .ptr .nil)))) (.ld (some 4) (.var 7)) (.upd 1 1 (.upd 0 1 (.const (.agg #[(.int .i64 0), (.int .u64 0), (.int .i64 0), (.pointer none)])) (.const (.int .i64 1))) (.const (.int .u64 5)))) (.const (.bool false))) (.bin .eql (.var 11) (.const (.int .i64 14))) (.const (.bool false))) (.bin .eql (.var 14) (.const (.int .i64 0))) (.const (.bool false))), (.pick (.pick (.pick (.pick (.bin .eql (.var 5) (.const (.int .i64 0))) (.bin .eql (.var 8) (.const (.int .i64 0))) (.const (.bool false))) (.eqx false (.cons 0 none .int (.cons 1 none .int (.cons 2 none .int (.cons 3 none .ptr .nil)))) (.ld (some 4) (.var 7)) (.upd 1 1 (.upd 0 1 (.const (.agg #[(.int .i64 0), (.int .u64 0), (.int .i64 0), (.pointer none)])) (.const (.int .i64 1))) (.const (.int .u64 5)))) (.const (.bool false))) (.bin .eql (.var 11) (.const (.int .i64 14))) (.const (.bool false))) (.bin .eql (.var 14) (.const (.int .i64 0))) (.const (.bool false))), (.pick (.pick (.pick (.pick (.bin .eql (.var 5) (.const (.int .i64 0))) (.bin .eql (.var 8) (.const (.int .i64 0))) (.const (.bool false))) (.eqx false (.cons 0 none .int (.cons 1 none .int (.cons 2 none .int (.cons 3 none .ptr .nil)))) (.ld (some 4) (.var 7)) (.upd 1 1 (.upd 0 1 (.const (.agg #[(.int .i64 0), (.int .u64 0), (.int .i64 0), (.pointer none)])) (.const (.int .i64 1))) (.const (.int .u64 5)))) (.const (.bool false))) (.bin .eql (.var 11) (.const (.int .i64 14))) (.const (.bool false))) (.bin .eql (.var 14) (.const (.int .i64 0))) (.const (.bool false))), (.pick (.pick (.pick (.pick (.bin .eql (.var 5) (.const (.int .i64 0))) (.bin .eql (.var 8) (.const (.int .i64 0))) (.const (.bool false))) (.eqx false (.cons 0 none .int (.cons 1 none .int (.cons 2 none .int (.cons 3 none .ptr .nil)))) (.ld (some 4) (.var 7)) (.upd 1 1 (.upd 0 1 (.const (.agg #[(.int .i64 0), (.int .u64 0), (.int .i64 0), (.pointer none)])) (.const (.int .i64 1))) (.const (.int .u64 5)))) (.const (.bool false))) (.bin .eql (.var 11) (.const (.int .i64 14))) (.const (.bool false))) (.var 14) (.const (.bool false))), (.pick (.pick (.pick (.bin .eql (.var 5) (.const (.int .i64 0))) (.bin .eql (.var 8) (.const (.int .i64 0))) (.const (.bool false))) (.eqx false (.cons 0 none .int (.cons 1 none .int (.cons 2 none .int (.cons 3 none .ptr .nil)))) (.ld (some 4) (.var 7)) (.upd 1 1 (.upd 0 1 (.const (.agg #[(.int .i64 0), (.int .u64 0), (.int .i64 0), (.pointer none)])) (.const (.int .i64 1))) (.const (.int .u64 5)))) (.const (.bool false))) (.bin .eql (.var 11) (.const (.int .i64 14))) (.const (.bool false))), (.pick (.pick (.pick (.bin .eql (.var 5) (.const (.int .i64 0))) (.bin .eql (.var 8) (.const (.int .i64 0))) (.const (.bool false))) (.eqx false (.cons 0 none .int (.cons 1 none .int (.cons 2 none .int (.cons 3 none .ptr .nil)))) (.ld (some 4) (.var 7)) (.upd 1 1 (.upd 0 1 (.const (.agg #[(.int .i64 0), (.int .u64 0), (.int .i64 0), (.pointer none)])) (.const (.int .i64 1))) (.const (.int .u64 5)))) (.const (.bool false))) (.bin .eql (.var 11) (.const (.int .i64 14))) (.const (.bool false))), (.pick (.pick (.pick (.bin .eql (.var 5) (.const (.int .i64 0))) (.bin .eql (.var 8) (.const (.int .i64 0))) (.const (.bool false))) (.eqx false (.cons 0 none .int (.cons 1 none .int (.cons 2 none .int (.cons 3 none .ptr .nil)))) (.ld (some 4) (.var 7)) (.upd 1 1 (.upd 0 1 (.const (.agg #[(.int .i64 0), (.int .u64 0), (.int .i64 0), (.pointer none)])) (.const (.int .i64 1))) (.const (.int .u64 5)))) (.const (.bool false))) (.bin .eql (.var 11) (.const (.int .i64 14))) (.const (.bool false))), (.pick (.pick (.pick (.bin .eql (.var 5) (.const (.int .i64 0))) (.bin .eql (.var 8) (.const (.int .i64 0))) (.const (.bool false))) (.eqx false (.cons 0 none .int (.cons 1 none .int (.cons 2 none .int (.cons 3 none .ptr .nil)))) (.ld (some 4) (.var 7)) (.upd 1 1 (.upd 0 1 (.const (.agg #[(.int .i64 0), (.int .u64 0), (.int .i64 0), (.pointer none)])) (.const (.int .i64 1))) (.const (.int .u64 5)))) (.const (.bool false))) (.var 11) (.const (.bool false))), (.pick (.pick (.bin .eql (.var 5) (.const (.int .i64 0))) (.bin .eql (.var 8) (.const (.int .i64 0))) (.const (.bool false))) (.eqx false (.cons 0 none .int (.cons 1 none .int (.cons 2 none .int (.cons 3 none .ptr .nil)))) (.ld (some 4) (.var 7)) (.upd 1 1 (.upd 0 1 (.const (.agg #[(.int .i64 0), (.int .u64 0), (.int .i64 0), (.pointer none)])) (.const (.int .i64 1))) (.const (.int .u64 5)))) (.const (.bool false))), (.pick (.pick (.bin .eql (.var 5) (.const (.int .i64 0))) (.bin .eql (.var 8) (.const (.int .i64 0))) (.const (.bool false))) (.eqx false (.cons 0 none .int (.cons 1 none .int (.cons 2 none .int (.cons 3 none .ptr .nil)))) (.ld (some 4) (.var 7)) (.upd 1 1 (.upd 0 1 (.const (.agg #[(.int .i64 0), (.int .u64 0), (.int .i64 0), (.pointer none)])) (.const (.int .i64 1))) (.const (.int .u64 5)))) (.const (.bool false))), (.pick (.pick (.bin .eql (.var 5) (.const (.int .i64 0))) (.bin .eql (.var 8) (.const (.int .i64 0))) (.const (.bool false))) (.eqx false (.cons 0 none .int (.cons 1 none .int (.cons 2 none .int (.cons 3 none .ptr .nil)))) (.ld (some 4) (.var 7)) (.upd 1 1 (.upd 0 1 (.const (.agg #[(.int .i64 0), (.int .u64 0), (.int .i64 0), (.pointer none)])) (.const (.int .i64 1))) (.const (.int .u64 5)))) (.const (.bool false))), (.pick (.pick (.bin .eql (.var 5) (.const (.int .i64 0))) (.bin .eql (.var 8) (.const (.int .i64 0))) (.const (.bool false))) (.upd 1 1 (.upd 0 1 (.const (.agg #[(.int .i64 0), (.int .u64 0), (.int .i64 0), (.pointer none)])) (.const (.int .i64 1))) (.const (.int .u64 5))) (.const (.bool false)))])
   (.set 0 (.pick (.pick (.pick (.pick (.pick (.bin .eql (.var 5) (.const (.int .i64 0))) (.bin .eql (.var 8) (.const (.int .i64 0))) (.const (.bool false))) (.eqx false (.cons 0 none .int (.cons 1 none .int (.cons 2 none .int (.cons 3 none .ptr .nil)))) (.ld (some 4) (.var 7)) (.upd 1 1 (.upd 0 1 (.const (.agg #[(.int .i64 0), (.int .u64 0), (.int .i64 0), (.pointer none)])) (.const (.int .i64 1))) (.const (.int .u64 5)))) (.const (.bool false))) (.bin .eql (.var 11) (.const (.int .i64 14))) (.const (.bool false))) (.bin .eql (.var 14) (.const (.int .i64 0))) (.const (.bool false))) (.bin .eql (.ld none (.offp 1 (.var 13))) (.const (.int .u64 1))) (.const (.bool false)))))
  .ret))))))))
abbrev v_tipstafflaw19_saves : List Nat := [0, 11, 1, 2, 16, 3, 20, 4, 5, 26, 6, 7, 32, 8, 9]
abbrev k_tipstafflaw19_saves : List (List Nat) := []
abbrev r_tipstafflaw19_saves : List Ex := [(.var 0)]
theorem ok_tipstafflaw19_saves : compile Try.prog Try.f5 v_tipstafflaw19_saves k_tipstafflaw19_saves = some (c_tipstafflaw19_saves, r_tipstafflaw19_saves) := by kernel_rfl

/- (*tipstaff/region.Memory).Save -/
def c_region_Memory_Save : Cmd :=
  (.seq
   (.seq
    (.new (some 6) 43 (.var 1) [])
   (.seq
    (.new (some 7) 43 (.var 4) [])
   (.set 5 (.const (.int .i64 0)))))
  (.seq
   (.seq
    (.call (some 8) 26 [(.var 3)] [])
   (.cond (.pick (.pick (.un .not (.var 8)) (.const (.bool true)) (.bin .leq (.ld none (.offp 0 (.var 7))) (.const (.int .i64 0)))) (.const (.bool true)) (.bin .gtr (.ld none (.offp 0 (.var 7))) (.const (.int .i64 5))))
     (.seq
      (.set 5 (.const (.int .i64 14)))
     .ret)
     .skip))
  (.seq
   (.seq
    (.call (some 9) 27 [(.var 0), (.ld (some 4) (.var 6)), (.var 2), (.var 3)] [])
   (.seq
    (.chk [(.proj 2 (.var 9)), (.proj 1 (.var 9))])
   (.seq
    (.set 10 (.proj 0 (.var 9)))
   (.seq
    (.set 11 (.proj 1 (.var 9)))
   (.set 12 (.proj 2 (.var 9)))))))
  (.seq
   (.seq
    (.seq
     (.chk [(.pick (.un .not (.var 12)) (.const (.bool false)) (.ld (some 4) (.var 6))), (.pick (.un .not (.var 12)) (.const (.bool false)) (.var 0))])
    (.cond (.pick (.un .not (.var 12)) (.const (.bool false)) (.const (.bool true)))
      (.call (some 13) 31 [(.var 0), (.ld (some 4) (.var 6))] [])
      (.clr [13])))
   (.cond (.pick (.un .not (.var 12)) (.const (.bool true)) (.un .not (.var 13)))
     (.seq
      (.set 5 (.const (.int .i64 14)))
     .ret)
     .skip))
  (.seq
   (.cond (.bin .eql (.ld none (.offp 0 (.var 7))) (.const (.int .i64 1)))
     (.seq
      (.call none 32 [(.var 0), (.ld (some 4) (.var 6)), (.var 10), (.var 11), (.ld none (.offp 1 (.var 7)))] [])
     (.seq
      (.set 5 (.const (.int .i64 0)))
     .ret))
     .skip)
  (.seq
   (.seq
    (.call (some 14) 28 [(.ld (some 4) (.var 6)), (.var 11), (.var 3)] [])
   (.cond (.un .not (.var 14))
     (.seq
      (.set 5 (.const (.int .i64 14)))
     .ret)
     .skip))
  (.seq
   (.call none 33 [(.var 0), (.var 11), (.var 3)] [])
  (.seq
   (.seq
    .draw
   (.store 4 (.ixArr 8 4 (.offp 160 (.nn (.var 0))) (.bin .quo (.var 11) (.const (.int .i64 8)))) (.ld (some 4) (.var 7)) []))
  (.seq
   (.set 5 (.const (.int .i64 0)))
  .ret)))))))))
abbrev v_region_Memory_Save : List Nat := [0, 1, 2, 3, 4, 10, 6, 9, 15, 32, 11, 12, 13, 41, 57]
abbrev k_region_Memory_Save : List (List Nat) := []
abbrev r_region_Memory_Save : List Ex := [(.var 5)]
theorem ok_region_Memory_Save : compile Try.prog Try.f12 v_region_Memory_Save k_region_Memory_Save = some (c_region_Memory_Save, r_region_Memory_Save) := by kernel_rfl

/- (*tipstaff/region.Memory).Load -/
def c_region_Memory_Load : Cmd :=
  (.seq
   (.seq
    (.new (some 6) 43 (.var 1) [])
   (.seq
    (.new (some 4) 43 (.const (.agg #[(.int .i64 0), (.int .u64 0), (.int .i64 0), (.pointer none)])) [])
   (.set 5 (.const (.int .i64 0)))))
  (.seq
   (.seq
    (.call (some 7) 26 [(.var 3)] [])
   (.cond (.un .not (.var 7))
     (.seq
      (.seq
       (.store 4 (.var 4) (.const (.agg #[(.int .i64 0), (.int .u64 0), (.int .i64 0), (.pointer none)])) [])
      (.set 5 (.const (.int .i64 14))))
     .ret)
     .skip))
  (.seq
   (.seq
    (.call (some 8) 27 [(.var 0), (.ld (some 4) (.var 6)), (.var 2), (.var 3)] [])
   (.seq
    (.chk [(.proj 2 (.var 8)), (.proj 1 (.var 8))])
   (.seq
    (.set 9 (.proj 0 (.var 8)))
   (.seq
    (.set 10 (.proj 1 (.var 8)))
   (.set 11 (.proj 2 (.var 8)))))))
  (.seq
   (.cond (.un .not (.var 11))
     (.seq
      (.seq
       (.store 4 (.var 4) (.const (.agg #[(.int .i64 0), (.int .u64 0), (.int .i64 0), (.pointer none)])) [])
      (.set 5 (.const (.int .i64 14))))
     .ret)
     .skip)
  (.seq
   (.seq
    (.call (some 12) 28 [(.ld (some 4) (.var 6)), (.var 10), (.var 3)] [])
   (.cond (.pick (.var 12) (.bin .neq (.ld none (.offp 0 (.ixArr 8 4 (.offp 160 (.nn (.var 0))) (.bin .quo (.var 10) (.const (.int .i64 8)))))) (.const (.int .i64 0))) (.const (.bool false)))
     (.seq
      (.seq
       (.store 4 (.var 4) (.ld (some 4) (.ixArr 8 4 (.offp 160 (.nn (.var 0))) (.bin .quo (.var 10) (.const (.int .i64 8))))) [])
      (.set 5 (.const (.int .i64 0))))
     .ret)
     .skip))
  (.seq
   (.seq
    (.seq
     (.set 14 (.bin .eql (.ld none (.offp 0 (.var 6))) (.const (.int .i64 3))))
    (.seq
     (.chk [(.pick (.var 14) (.var 3) (.const (.bool false))), (.pick (.var 14) (.var 10) (.const (.bool false))), (.pick (.var 14) (.var 0) (.const (.bool false)))])
    (.cond (.pick (.var 14) (.const (.bool true)) (.const (.bool false)))
      (.call (some 13) 29 [(.var 0), (.var 10), (.var 3)] [])
      (.clr [13]))))
   (.cond (.pick (.var 14) (.un .not (.var 13)) (.const (.bool false)))
     (.seq
      (.seq
       (.store 4 (.var 4) (.const (.agg #[(.int .i64 0), (.int .u64 0), (.int .i64 0), (.pointer none)])) [])
      (.set 5 (.const (.int .i64 14))))
     .ret)
     .skip))
  (.seq
   (.seq
    (.call (some 15) 30 [(.var 9)] [])
   (.seq
    (.chk [(.upd 1 1 (.upd 0 1 (.const (.agg #[(.int .i64 0), (.int .u64 0), (.int .i64 0), (.pointer none)])) (.const (.int .i64 1))) (.var 15))])
   (.seq
    (.store 4 (.var 4) (.upd 1 1 (.upd 0 1 (.const (.agg #[(.int .i64 0), (.int .u64 0), (.int .i64 0), (.pointer none)])) (.const (.int .i64 1))) (.var 15)) [])
   (.set 5 (.const (.int .i64 0))))))
  .ret)))))))
abbrev v_region_Memory_Load : List Nat := [0, 1, 2, 3, 8, 9, 5, 14, 22, 10, 11, 12, 32, 58, 54, 63]
abbrev k_region_Memory_Load : List (List Nat) := []
abbrev r_region_Memory_Load : List Ex := [(.ld (some 4) (.var 4)), (.var 5)]
theorem ok_region_Memory_Load : compile Try.prog Try.f11 v_region_Memory_Load k_region_Memory_Load = some (c_region_Memory_Load, r_region_Memory_Load) := by kernel_rfl

/- (*tipstaff/region.Memory).Bytes -/
def c_region_Memory_Bytes : Cmd :=
  (.seq
   (.seq
    (.new (some 5) 43 (.var 1) [])
   (.seq
    (.set 3 (.const (.slice none 0 0)))
   (.set 4 (.const (.int .i64 0)))))
  (.seq
   (.seq
    (.call (some 6) 27 [(.var 0), (.ld (some 4) (.var 5)), (.const (.int .i64 0)), (.mx (.var 2) (.const (.int .i64 0)))] [])
   (.seq
    (.chk [(.proj 2 (.var 6)), (.proj 1 (.var 6))])
   (.seq
    (.set 7 (.proj 0 (.var 6)))
   (.seq
    (.set 8 (.proj 1 (.var 6)))
   (.set 9 (.proj 2 (.var 6)))))))
  (.seq
   (.seq
    (.seq
     (.chk [(.pick (.pick (.pick (.un .not (.var 9)) (.const (.bool true)) (.bin .lss (.var 2) (.const (.int .i64 0)))) (.const (.bool true)) (.bin .gtr (.var 2) (.const (.int .i64 64)))) (.const (.bool false)) (.bin .eql (.ld none (.offp 0 (.var 5))) (.const (.int .i64 3))))])
    (.seq
     (.cond (.pick (.pick (.pick (.un .not (.var 9)) (.const (.bool true)) (.bin .lss (.var 2) (.const (.int .i64 0)))) (.const (.bool true)) (.bin .gtr (.var 2) (.const (.int .i64 64)))) (.const (.bool false)) (.const (.bool true)))
       (.set 11 (.bin .eql (.ld none (.offp 0 (.var 5))) (.const (.int .i64 3))))
       (.clr [11]))
    (.seq
     (.chk [(.pick (.pick (.pick (.un .not (.var 9)) (.const (.bool true)) (.bin .lss (.var 2) (.const (.int .i64 0)))) (.const (.bool true)) (.bin .gtr (.var 2) (.const (.int .i64 64)))) (.const (.bool false)) (.pick (.var 11) (.var 2) (.const (.bool false)))), (.pick (.pick (.pick (.un .not (.var 9)) (.const (.bool true)) (.bin .lss (.var 2) (.const (.int .i64 0)))) (.const (.bool true)) (.bin .gtr (.var 2) (.const (.int .i64 64)))) (.const (.bool false)) (.pick (.var 11) (.var 8) (.const (.bool false)))), (.pick (.pick (.pick (.un .not (.var 9)) (.const (.bool true)) (.bin .lss (.var 2) (.const (.int .i64 0)))) (.const (.bool true)) (.bin .gtr (.var 2) (.const (.int .i64 64)))) (.const (.bool false)) (.pick (.var 11) (.var 0) (.const (.bool false))))])
    (.cond (.pick (.pick (.pick (.un .not (.var 9)) (.const (.bool true)) (.bin .lss (.var 2) (.const (.int .i64 0)))) (.const (.bool true)) (.bin .gtr (.var 2) (.const (.int .i64 64)))) (.const (.bool false)) (.pick (.var 11) (.const (.bool true)) (.const (.bool false))))
      (.call (some 10) 29 [(.var 0), (.var 8), (.var 2)] [])
      (.clr [10])))))
   (.cond (.pick (.pick (.pick (.un .not (.var 9)) (.const (.bool true)) (.bin .lss (.var 2) (.const (.int .i64 0)))) (.const (.bool true)) (.bin .gtr (.var 2) (.const (.int .i64 64)))) (.const (.bool true)) (.pick (.var 11) (.un .not (.var 10)) (.const (.bool false))))
     (.seq
      (.seq
       (.set 3 (.const (.slice none 0 0)))
      (.set 4 (.const (.int .i64 14))))
     .ret)
     .skip))
  (.seq
   (.seq
    (.row (some 12) 5 0 (.const (.agg #[])) [])
   (.seq
    (.bi (some 13) .append [22, 22] 22 [(.var 12), (.var 7)] [])
   (.seq
    (.set 3 (.var 13))
   (.set 4 (.const (.int .i64 0))))))
  .ret))))
abbrev v_region_Memory_Bytes : List Nat := [0, 1, 2, 6, 7, 4, 16, 8, 9, 10, 38, 34, 42, 44]
abbrev k_region_Memory_Bytes : List (List Nat) := []
abbrev r_region_Memory_Bytes : List Ex := [(.var 3), (.var 4)]
/- (*tipstaff/region.Memory).Fill -/
def c_region_Memory_Fill : Cmd :=
  (.seq
   (.seq
    (.new (some 4) 43 (.var 1) [])
   (.set 3 (.const (.int .i64 0))))
  (.seq
   (.seq
    (.call (some 5) 27 [(.var 0), (.ld (some 4) (.var 4)), (.const (.int .i64 0)), (.len false (.var 2))] [])
   (.seq
    (.chk [(.proj 2 (.var 5)), (.proj 1 (.var 5))])
   (.seq
    (.set 6 (.proj 0 (.var 5)))
   (.seq
    (.set 7 (.proj 1 (.var 5)))
   (.set 8 (.proj 2 (.var 5)))))))
  (.seq
   (.seq
    (.seq
     (.chk [(.pick (.pick (.un .not (.var 8)) (.const (.bool true)) (.bin .gtr (.len false (.var 2)) (.const (.int .i64 64)))) (.const (.bool false)) (.ld (some 4) (.var 4))), (.pick (.pick (.un .not (.var 8)) (.const (.bool true)) (.bin .gtr (.len false (.var 2)) (.const (.int .i64 64)))) (.const (.bool false)) (.var 0))])
    (.cond (.pick (.pick (.un .not (.var 8)) (.const (.bool true)) (.bin .gtr (.len false (.var 2)) (.const (.int .i64 64)))) (.const (.bool false)) (.const (.bool true)))
      (.call (some 9) 31 [(.var 0), (.ld (some 4) (.var 4))] [])
      (.clr [9])))
   (.cond (.pick (.pick (.un .not (.var 8)) (.const (.bool true)) (.bin .gtr (.len false (.var 2)) (.const (.int .i64 64)))) (.const (.bool true)) (.un .not (.var 9)))
     (.seq
      (.set 3 (.const (.int .i64 14)))
     .ret)
     .skip))
  (.seq
   (.bi none .copy [22, 22] 3 [(.var 6), (.var 2)] [])
  (.seq
   (.cond (.bin .eql (.ld none (.offp 0 (.var 4))) (.const (.int .i64 3)))
     (.call none 33 [(.var 0), (.var 7), (.len false (.var 2))] [])
     .skip)
  (.seq
   (.set 3 (.const (.int .i64 0)))
  .ret))))))
abbrev v_region_Memory_Fill : List Nat := [0, 1, 2, 6, 4, 15, 7, 8, 9, 29]
abbrev k_region_Memory_Fill : List (List Nat) := []
abbrev r_region_Memory_Fill : List Ex := [(.var 3)]
theorem ok_region_Memory_Fill : compile Try.prog Try.f15 v_region_Memory_Fill k_region_Memory_Fill = some (c_region_Memory_Fill, r_region_Memory_Fill) := by kernel_rfl

/- (*tipstaff/region.Memory).Map -/
def c_region_Memory_Map : Cmd :=
  (.seq
   (.set 2 (.const (.pointer none)))
  (.seq
   (.cond (.pick (.pick (.isnil 0 false (.var 0)) (.const (.bool true)) (.bin .lss (.var 1) (.const (.int .i64 0)))) (.const (.bool true)) (.bin .geq (.var 1) (.len false (.ld none (.offp 192 (.nn (.var 0)))))))
     (.seq
      (.set 2 (.const (.pointer none)))
     .ret)
     .skip)
  (.seq
   (.set 2 (.ld none (.ixSl 1 (.ld none (.offp 192 (.nn (.var 0)))) (.var 1))))
  .ret)))
abbrev v_region_Memory_Map : List Nat := [0, 1, 4]
abbrev k_region_Memory_Map : List (List Nat) := []
abbrev r_region_Memory_Map : List Ex := [(.var 2)]
theorem ok_region_Memory_Map : compile Try.prog Try.f9 v_region_Memory_Map k_region_Memory_Map = some (c_region_Memory_Map, r_region_Memory_Map) := by kernel_rfl

/- tipstaff/region.sized -/
def c_region_sized : Cmd :=
  (.seq
   (.set 1 (.const (.bool false)))
  (.seq
   (.set 1 (.pick (.pick (.pick (.bin .eql (.var 0) (.const (.int .i64 1))) (.const (.bool true)) (.bin .eql (.var 0) (.const (.int .i64 2)))) (.const (.bool true)) (.bin .eql (.var 0) (.const (.int .i64 4)))) (.const (.bool true)) (.bin .eql (.var 0) (.const (.int .i64 8)))))
  .ret))
abbrev v_region_sized : List Nat := [0, 2]
abbrev k_region_sized : List (List Nat) := []
abbrev r_region_sized : List Ex := [(.var 1)]
theorem ok_region_sized : compile Try.prog Try.f26 v_region_sized k_region_sized = some (c_region_sized, r_region_sized) := by kernel_rfl

/- (*tipstaff/region.Memory).view -/
def c_region_Memory_view : Cmd :=
  (.seq
   (.seq
    (.new (some 7) 43 (.var 1) [])
   (.seq
    (.set 4 (.const (.slice none 0 0)))
   (.seq
    (.set 5 (.const (.int .i64 0)))
   (.set 6 (.const (.bool false))))))
  (.seq
   (.cond (.isnil 0 false (.var 0))
     (.seq
      (.seq
       (.set 4 (.const (.slice none 0 0)))
      (.seq
       (.set 5 (.const (.int .i64 0)))
      (.set 6 (.const (.bool false)))))
     .ret)
     .skip)
  (.seq
   (.seq
    (.call (some 8) 47 [(.var 0), (.ld (some 4) (.var 7))] [])
   (.seq
    (.chk [(.proj 1 (.var 8))])
   (.seq
    (.set 9 (.proj 0 (.var 8)))
   (.set 10 (.proj 1 (.var 8))))))
  (.seq
   (.seq
    (.call (some 11) 48 [(.conv .i64 (.ld none (.offp 1 (.var 7)))), (.var 2)] [])
   (.seq
    (.chk [(.proj 1 (.var 11))])
   (.seq
    (.set 12 (.proj 0 (.var 11)))
   (.set 13 (.proj 1 (.var 11))))))
  (.seq
   (.cond (.pick (.pick (.pick (.isnil 1 false (.var 9)) (.const (.bool true)) (.un .not (.var 13))) (.const (.bool true)) (.bin .lss (.var 12) (.un .neg (.var 10)))) (.const (.bool true)) (.bin .gtr (.var 12) (.bin .sub (.bin .sub (.len false (.var 9)) (.var 10)) (.var 3))))
     (.seq
      (.seq
       (.set 4 (.const (.slice none 0 0)))
      (.seq
       (.set 5 (.const (.int .i64 0)))
      (.set 6 (.const (.bool false)))))
     .ret)
     .skip)
  (.seq
   (.set 14 (.bin .add (.var 12) (.var 10)))
  (.seq
   (.seq
    (.set 4 (.slSl 1 (.var 9) (.var 14) (.bin .add (.var 14) (.var 3))))
   (.seq
    (.set 5 (.var 14))
   (.set 6 (.const (.bool true)))))
  .ret)))))))
abbrev v_region_Memory_view : List Nat := [0, 1, 2, 3, 8, 9, 10, 5, 21, 11, 12, 29, 13, 14, 15]
abbrev k_region_Memory_view : List (List Nat) := []
abbrev r_region_Memory_view : List Ex := [(.var 4), (.var 5), (.var 6)]
theorem ok_region_Memory_view : compile Try.prog Try.f27 v_region_Memory_view k_region_Memory_view = some (c_region_Memory_view, r_region_Memory_view) := by kernel_rfl

/- (*tipstaff/region.Memory).writes -/
def c_region_Memory_writes : Cmd :=
  (.seq
   (.seq
    (.new (some 3) 43 (.var 1) [])
   (.set 2 (.const (.bool false))))
  (.seq
   (.cond (.bin .eql (.ld none (.offp 0 (.var 3))) (.const (.int .i64 5)))
     (.seq
      (.seq
       (.call (some 4) 9 [(.var 0), (.ld none (.offp 2 (.var 3)))] [])
      (.set 5 (.var 4)))
     (.seq
      (.seq
       (.chk [(.pick (.isnil 0 true (.var 5)) (.var 5) (.const (.bool false)))])
      (.seq
       (.cond (.pick (.isnil 0 true (.var 5)) (.const (.bool true)) (.const (.bool false)))
         (.call (some 6) 49 [(.var 5)] [])
         (.clr [6]))
      (.set 2 (.pick (.isnil 0 true (.var 5)) (.un .not (.var 6)) (.const (.bool false))))))
     .ret))
     .skip)
  (.seq
   (.set 2 (.bin .eql (.ld none (.offp 0 (.var 3))) (.const (.int .i64 3))))
  .ret)))
abbrev v_region_Memory_writes : List Nat := [0, 1, 4, 3, 12, 5, 17]
abbrev k_region_Memory_writes : List (List Nat) := []
abbrev r_region_Memory_writes : List Ex := [(.var 2)]
theorem ok_region_Memory_writes : compile Try.prog Try.f31 v_region_Memory_writes k_region_Memory_writes = some (c_region_Memory_writes, r_region_Memory_writes) := by kernel_rfl

/- (*tipstaff/region.Memory).number -/
def c_region_Memory_number : Cmd :=
  (.seq
   (.new (some 5) 43 (.var 1) [])
  (.seq
   (.seq
    (.seq
     (.set 7 (.len false (.var 2)))
    (.set 6 (.const (.int .i64 0))))
   (.block 0
     (.loop [0, 2, 3, 4, 5, 6, 7]
       (.seq
        (.cond (.bin .lss (.var 6) (.var 7))
          .skip
          (.exit 0))
       (.seq
        (.block 1
          (.seq
           (.set 8 (.var 6))
          (.store 1 (.ixSl 1 (.var 2) (.var 8)) (.conv .u8 (.bin .shr (.var 4) (.bin .mul (.const (.int .i64 8)) (.var 8)))) [])))
       (.set 6 (.bin .add (.var 6) (.const (.int .i64 1)))))))))
  (.cond (.bin .eql (.ld none (.offp 0 (.var 5))) (.const (.int .i64 3)))
    (.call none 33 [(.var 0), (.var 3), (.len false (.var 2))] [])
    .skip)))
abbrev v_region_Memory_number : List Nat := [0, 1, 2, 3, 4, 6, 13, 12, 10]
abbrev k_region_Memory_number : List (List Nat) := [[0, 2, 3, 4, 5, 6, 7]]
abbrev r_region_Memory_number : List Ex := []
theorem ok_region_Memory_number : compile Try.prog Try.f32 v_region_Memory_number k_region_Memory_number = some (c_region_Memory_number, r_region_Memory_number) := by kernel_rfl

/- tipstaff/region.exact -/
def c_region_exact : Cmd :=
  (.seq
   (.seq
    (.new (some 4) 43 (.var 0) [])
   (.set 3 (.const (.bool false))))
  (.seq
   (.set 3 (.pick (.pick (.bin .eql (.ld none (.offp 0 (.var 4))) (.const (.int .i64 3))) (.bin .eql (.var 2) (.const (.int .i64 8))) (.const (.bool false))) (.bin .eql (.bin .rem (.var 1) (.const (.int .i64 8))) (.const (.int .i64 0))) (.const (.bool false))))
  .ret))
abbrev v_region_exact : List Nat := [0, 1, 2, 6, 3]
abbrev k_region_exact : List (List Nat) := []
abbrev r_region_exact : List Ex := [(.var 3)]
theorem ok_region_exact : compile Try.prog Try.f28 v_region_exact k_region_exact = some (c_region_exact, r_region_exact) := by kernel_rfl

/- (*tipstaff/region.Memory).mark -/
def c_region_Memory_mark : Cmd :=
  (.seq
   (.seq
    (.set 3 (.var 1))
   (.block 0
     (.loop [0, 1, 2, 3]
       (.seq
        (.cond (.bin .lss (.var 3) (.bin .add (.var 1) (.var 2)))
          .skip
          (.exit 0))
       (.seq
        (.block 1
          (.seq
           (.set 4 (.bin .quo (.var 3) (.const (.int .i64 8))))
          (.cond (.bin .neq (.ld none (.offp 0 (.ixArr 8 4 (.offp 160 (.nn (.var 0))) (.var 4)))) (.const (.int .i64 0)))
            (.seq
             (.store 4 (.ixArr 8 4 (.offp 160 (.nn (.var 0))) (.var 4)) (.const (.agg #[(.int .i64 0), (.int .u64 0), (.int .i64 0), (.pointer none)])) [])
            (.seq
             (.set 5 (.const (.int .i64 0)))
            (.block 2
              (.loop [0, 1, 2, 3, 4, 5]
                (.seq
                 (.cond (.bin .lss (.var 5) (.const (.int .i64 8)))
                   .skip
                   (.exit 2))
                (.seq
                 (.block 3
                   (.seq
                    (.set 6 (.var 5))
                   (.store 1 (.ixArr 64 1 (.offp 96 (.nn (.var 0))) (.bin .add (.bin .mul (.var 4) (.const (.int .i64 8))) (.var 6))) (.const (.bool false)) [])))
                (.set 5 (.bin .add (.var 5) (.const (.int .i64 1))))))))))
            .skip)))
       (.set 3 (.bin .add (.var 3) (.const (.int .i64 1)))))))))
  (.seq
   (.set 7 (.var 1))
  (.block 4
    (.loop [0, 1, 2, 7]
      (.seq
       (.cond (.bin .lss (.var 7) (.bin .add (.var 1) (.var 2)))
         .skip
         (.exit 4))
      (.seq
       (.block 5
         (.store 1 (.ixArr 64 1 (.offp 96 (.nn (.var 0))) (.var 7)) (.const (.bool true)) []))
      (.set 7 (.bin .add (.var 7) (.const (.int .i64 1))))))))))
abbrev v_region_Memory_mark : List Nat := [0, 1, 2, 6, 7, 34, 8, 9]
abbrev k_region_Memory_mark : List (List Nat) := [[0, 1, 2, 3], [0, 1, 2, 3, 4, 5], [0, 1, 2, 7]]
abbrev r_region_Memory_mark : List Ex := []
theorem ok_region_Memory_mark : compile Try.prog Try.f33 v_region_Memory_mark k_region_Memory_mark = some (c_region_Memory_mark, r_region_Memory_mark) := by kernel_rfl

/- (*tipstaff/region.Memory).ready -/
def c_region_Memory_ready : Cmd :=
  (.seq
   (.set 3 (.const (.bool false)))
  (.seq
   (.seq
    (.set 4 (.var 1))
   (.block 0
     (.loop [0, 1, 2, 4]
       (.seq
        (.cond (.bin .lss (.var 4) (.bin .add (.var 1) (.var 2)))
          .skip
          (.exit 0))
       (.seq
        (.block 1
          (.cond (.pick (.un .not (.ld none (.ixArr 64 1 (.offp 96 (.nn (.var 0))) (.var 4)))) (.const (.bool true)) (.bin .neq (.ld none (.offp 0 (.ixArr 8 4 (.offp 160 (.nn (.var 0))) (.bin .quo (.var 4) (.const (.int .i64 8)))))) (.const (.int .i64 0))))
            (.seq
             (.set 3 (.const (.bool false)))
            .ret)
            .skip))
       (.set 4 (.bin .add (.var 4) (.const (.int .i64 1)))))))))
  (.seq
   (.set 3 (.const (.bool true)))
  .ret)))
abbrev v_region_Memory_ready : List Nat := [0, 1, 2, 6, 7]
abbrev k_region_Memory_ready : List (List Nat) := [[0, 1, 2, 4]]
abbrev r_region_Memory_ready : List Ex := [(.var 3)]
theorem ok_region_Memory_ready : compile Try.prog Try.f29 v_region_Memory_ready k_region_Memory_ready = some (c_region_Memory_ready, r_region_Memory_ready) := by kernel_rfl

/- tipstaff/region.little -/
def c_region_little : Cmd :=
  (.seq
   (.set 1 (.const (.int .u64 0)))
  (.seq
   (.set 2 (.const (.int .u64 0)))
  (.seq
   (.seq
    (.seq
     (.set 5 (.var 0))
    (.seq
     (.set 4 (.len false (.var 5)))
    (.set 3 (.const (.int .i64 0)))))
   (.block 0
     (.loop [2, 3, 4, 5]
       (.seq
        (.cond (.bin .lss (.var 3) (.var 4))
          .skip
          (.exit 0))
       (.seq
        (.block 1
          (.seq
           (.seq
            (.chk [(.ld none (.ixSl 1 (.var 5) (.var 3)))])
           (.seq
            (.set 6 (.var 3))
           (.set 7 (.ld none (.ixSl 1 (.var 5) (.var 3))))))
          (.set 2 (.bin .or (.var 2) (.bin .shl (.conv .u64 (.var 7)) (.bin .mul (.const (.int .i64 8)) (.var 6)))))))
       (.set 3 (.bin .add (.var 3) (.const (.int .i64 1)))))))))
  (.seq
   (.set 1 (.var 2))
  .ret))))
abbrev v_region_little : List Nat := [0, 2, 3, 8, 7, 6, 4, 5]
abbrev k_region_little : List (List Nat) := [[2, 3, 4, 5]]
abbrev r_region_little : List Ex := [(.var 1)]
theorem ok_region_little : compile Try.prog Try.f30 v_region_little k_region_little = some (c_region_little, r_region_little) := by kernel_rfl

/- (*tipstaff/region.Memory).bytes -/
def c_region_Memory_bytes : Cmd :=
  (.seq
   (.seq
    (.new (some 4) 43 (.var 1) [])
   (.seq
    (.set 2 (.const (.slice none 0 0)))
   (.set 3 (.const (.int .i64 0)))))
  (.seq
   (.seq
    (.set 5 (.ld none (.offp 0 (.var 4))))
   (.block 0
     (.seq
      (.set 6 (.bin .eql (.var 5) (.const (.int .i64 2))))
     (.cond (.var 6)
       (.seq
        (.seq
         (.set 2 (.slArr 32 1 (.offp 0 (.nn (.var 0))) (.const (.int .i64 0)) (.const (.int .i64 32))))
        (.set 3 (.const (.int .i64 0))))
       .ret)
       (.seq
        (.set 7 (.bin .eql (.var 5) (.const (.int .i64 3))))
       (.cond (.var 7)
         (.seq
          (.seq
           (.set 2 (.slArr 64 1 (.offp 32 (.nn (.var 0))) (.const (.int .i64 0)) (.const (.int .i64 64))))
          (.set 3 (.const (.int .i64 64))))
         .ret)
         (.seq
          (.set 8 (.bin .eql (.var 5) (.const (.int .i64 5))))
         (.cond (.var 8)
           (.cond (.isnil 0 true (.ld none (.offp 3 (.var 4))))
             (.seq
              (.seq
               (.set 2 (.ld none (.offp 0 (.nn (.ld none (.offp 3 (.var 4)))))))
              (.set 3 (.const (.int .i64 0))))
             .ret)
             .skip)
           .skip))))))))
  (.seq
   (.seq
    (.set 2 (.const (.slice none 0 0)))
   (.set 3 (.const (.int .i64 0))))
  .ret)))
abbrev v_region_Memory_bytes : List Nat := [0, 1, 4, 5, 3, 7, 8, 14, 20]
abbrev k_region_Memory_bytes : List (List Nat) := []
abbrev r_region_Memory_bytes : List Ex := [(.var 2), (.var 3)]
theorem ok_region_Memory_bytes : compile Try.prog Try.f47 v_region_Memory_bytes k_region_Memory_bytes = some (c_region_Memory_bytes, r_region_Memory_bytes) := by kernel_rfl

/- tipstaff/region.plus -/
def c_region_plus : Cmd :=
  (.seq
   (.seq
    (.set 2 (.const (.int .i64 0)))
   (.set 3 (.const (.bool false))))
  (.seq
   (.set 4 (.bin .add (.var 0) (.var 1)))
  (.seq
   (.seq
    (.chk [(.pick (.eqx true .bool (.bin .lss (.var 0) (.const (.int .i64 0))) (.bin .lss (.var 1) (.const (.int .i64 0)))) (.const (.bool true)) (.eqx false .bool (.bin .lss (.var 4) (.const (.int .i64 0))) (.bin .lss (.var 0) (.const (.int .i64 0)))))])
   (.seq
    (.set 2 (.var 4))
   (.set 3 (.pick (.eqx true .bool (.bin .lss (.var 0) (.const (.int .i64 0))) (.bin .lss (.var 1) (.const (.int .i64 0)))) (.const (.bool true)) (.eqx false .bool (.bin .lss (.var 4) (.const (.int .i64 0))) (.bin .lss (.var 0) (.const (.int .i64 0))))))))
  .ret)))
abbrev v_region_plus : List Nat := [0, 1, 4, 5, 6]
abbrev k_region_plus : List (List Nat) := []
abbrev r_region_plus : List Ex := [(.var 2), (.var 3)]
theorem ok_region_plus : compile Try.prog Try.f48 v_region_plus k_region_plus = some (c_region_plus, r_region_plus) := by kernel_rfl
end Go.Proofs.Ythfchnaocbkofaa
