/- Commands of functions, and that they are what the code comes to. -/
import Derived.Test.YthfchnaocbkofaaEngK
import Derived.Test.YthfchnaocbkofaaRows
namespace Go.Proofs.Ythfchnaocbkofaa
open Go.Eng
/- (*tipstaff/bmap.Map).Lookup -/
def c_bmap_Map_Lookup : Cmd :=
  (.seq
   (.seq
    (.set 2 (.const (.slice none 0 0)))
   (.set 3 (.const (.int .i64 0))))
  (.seq
   (.seq
    (.call (some 4) 25 [(.var 0), (.var 1)] [])
   (.seq
    (.chk [(.proj 1 (.var 4))])
   (.seq
    (.set 5 (.proj 0 (.var 4)))
   (.set 6 (.proj 1 (.var 4))))))
  (.seq
   (.cond (.bin .neq (.var 6) (.const (.int .i64 0)))
     (.seq
      (.seq
       (.chk [(.var 6)])
      (.seq
       (.set 2 (.const (.slice none 0 0)))
      (.set 3 (.var 6))))
     .ret)
     .skip)
  (.seq
   (.seq
    (.call (some 7) 34 [(.ld none (.offp 0 (.nn (.ld none (.offp 1 (.nn (.var 5)))))))] [])
   (.seq
    (.set 2 (.var 7))
   (.set 3 (.const (.int .i64 0)))))
  .ret))))
abbrev v_bmap_Map_Lookup : List Nat := [0, 1, 4, 5, 11, 6, 7, 24]
abbrev k_bmap_Map_Lookup : List (List Nat) := []
abbrev r_bmap_Map_Lookup : List Ex := [(.var 2), (.var 3)]
theorem ok_bmap_Map_Lookup : compile Try.prog Try.f13 v_bmap_Map_Lookup k_bmap_Map_Lookup = some (c_bmap_Map_Lookup, r_bmap_Map_Lookup) := by kernel_rfl

/- (*tipstaff/bmap.Map).Update -/
def c_bmap_Map_Update : Cmd :=
  (.seq
   (.set 4 (.const (.int .i64 0)))
  (.seq
   (.seq
    (.seq
     (.call (some 5) 18 [(.var 0)] [])
    (.set 6 (.var 5)))
   (.cond (.bin .neq (.var 6) (.const (.int .i64 0)))
     (.seq
      (.set 4 (.var 6))
     .ret)
     .skip))
  (.seq
   (.seq
    (.call (some 7) 19 [(.var 0), (.var 1)] [])
   (.cond (.pick (.pick (.un .not (.var 7)) (.const (.bool true)) (.bin .neq (.len false (.var 2)) (.ld none (.offp 2 (.offp 0 (.nn (.var 0))))))) (.const (.bool true)) (.bin .gtr (.var 3) (.const (.int .u64 2))))
     (.seq
      (.set 4 (.const (.int .i64 22)))
     .ret)
     .skip))
  (.seq
   (.seq
    (.call (some 8) 20 [(.var 0), (.var 1)] [])
   (.set 9 (.var 8)))
  (.seq
   (.seq
    (.seq
     (.call (some 10) 21 [(.var 0), (.var 9), (.var 3)] [])
    (.set 11 (.var 10)))
   (.cond (.bin .neq (.var 11) (.const (.int .i64 0)))
     (.seq
      (.set 4 (.var 11))
     .ret)
     .skip))
  (.seq
   (.cond (.isnil 0 false (.var 9))
     (.seq
      (.seq
       (.seq
        (.call (some 12) 22 [(.var 0)] [])
       (.set 13 (.var 12)))
      (.cond (.bin .neq (.var 13) (.const (.int .i64 0)))
        (.seq
         (.set 4 (.var 13))
        .ret)
        .skip))
     (.seq
      (.seq
       .draw
      (.seq
       (.chk [(.var 1)])
      (.seq
       (.set 15 (.ld none (.offp 2 (.offp 0 (.nn (.var 0))))))
      (.alt
       (.seq
        (.call (some 14) 23 [(.var 0), (.var 1)] [(.ld none (.offp 2 (.offp 0 (.nn (.var 0)))))])
       (.seq
        (.sem (some 16) (.mk 22) [(.var 15), (.var 15)] [])
       (.seq
        (.chk [(.upd 0 1 (.const (.agg #[(.slice none 0 0)])) (.var 16))])
       (.seq
        (.new (some 17) 60 (.upd 0 1 (.const (.agg #[(.slice none 0 0)])) (.var 16)) [])
       (.seq
        (.chk [(.upd 1 1 (.upd 0 1 (.const (.agg #[(.string ⟨#[]⟩), (.pointer none), (.int .i64 0)])) (.var 14)) (.var 17))])
       (.seq
        (.new (some 18) 62 (.upd 1 1 (.upd 0 1 (.const (.agg #[(.string ⟨#[]⟩), (.pointer none), (.int .i64 0)])) (.var 14)) (.var 17)) [])
       (.set 9 (.var 18))))))))
      (.seq
       (.sem (some 16) (.mk 22) [(.var 15), (.var 15)] [(.ld none (.offp 2 (.offp 0 (.nn (.var 0)))))])
      (.alt
       (.seq
        (.chk [(.upd 0 1 (.const (.agg #[(.slice none 0 0)])) (.var 16))])
       (.seq
        (.call (some 14) 23 [(.var 0), (.var 1)] [(.ld none (.offp 2 (.offp 0 (.nn (.var 0)))))])
       (.seq
        (.new (some 17) 60 (.upd 0 1 (.const (.agg #[(.slice none 0 0)])) (.var 16)) [])
       (.seq
        (.chk [(.upd 1 1 (.upd 0 1 (.const (.agg #[(.string ⟨#[]⟩), (.pointer none), (.int .i64 0)])) (.var 14)) (.var 17))])
       (.seq
        (.new (some 18) 62 (.upd 1 1 (.upd 0 1 (.const (.agg #[(.string ⟨#[]⟩), (.pointer none), (.int .i64 0)])) (.var 14)) (.var 17)) [])
       (.set 9 (.var 18)))))))
      (.seq
       (.chk [(.upd 0 1 (.const (.agg #[(.slice none 0 0)])) (.var 16))])
      (.seq
       (.new (some 17) 60 (.upd 0 1 (.const (.agg #[(.slice none 0 0)])) (.var 16)) [(.ld none (.offp 2 (.offp 0 (.nn (.var 0)))))])
      (.seq
       (.call (some 14) 23 [(.var 0), (.var 1)] [(.ld none (.offp 2 (.offp 0 (.nn (.var 0)))))])
      (.seq
       (.chk [(.upd 1 1 (.upd 0 1 (.const (.agg #[(.string ⟨#[]⟩), (.pointer none), (.int .i64 0)])) (.var 14)) (.var 17))])
      (.seq
       (.new (some 18) 62 (.upd 1 1 (.upd 0 1 (.const (.agg #[(.string ⟨#[]⟩), (.pointer none), (.int .i64 0)])) (.var 14)) (.var 17)) [])
      (.set 9 (.var 18)))))))))))))
     (.seq
      (.set 20 (.ld none (.offp 4 (.nn (.var 0)))))
     (.seq
      (.row (some 19) 57 1 (.upd 0 1 (.const (.agg #[(.pointer none)])) (.var 9)) [])
     (.seq
      (.bi (some 21) .append [54, 54] 54 [(.var 20), (.var 19)] [])
     (.store 1 (.offp 4 (.nn (.var 0))) (.var 21) []))))))
     .skip)
  (.seq
   (.bi none .copy [22, 22] 3 [(.ld none (.offp 0 (.nn (.ld none (.offp 1 (.nn (.var 9))))))), (.var 2)] [])
  (.seq
   (.call none 24 [(.var 0), (.var 9)] [])
  (.seq
   (.set 4 (.const (.int .i64 0)))
  .ret)))))))))
abbrev v_bmap_Map_Update : List Nat := [0, 1, 2, 3, 8, 14, 9, 20, 38, 10, 42, 11, 49, 12, 55, 60, 61, 63, 65, 72, 70, 73]
abbrev k_bmap_Map_Update : List (List Nat) := []
abbrev r_bmap_Map_Update : List Ex := [(.var 4)]
theorem ok_bmap_Map_Update : compile Try.prog Try.f6 v_bmap_Map_Update k_bmap_Map_Update = some (c_bmap_Map_Update, r_bmap_Map_Update) := by kernel_rfl

abbrev v_bmap_Map_Delete : List Nat := [0, 1, 4, 8, 5, 14, 26, 6, 35]
abbrev k_bmap_Map_Delete : List (List Nat) := []
abbrev r_bmap_Map_Delete : List Ex := [(.var 2)]
/- (*tipstaff/bmap.Map).Cell -/
def c_bmap_Map_Cell : Cmd :=
  (.seq
   (.seq
    (.set 2 (.const (.pointer none)))
   (.set 3 (.const (.int .i64 0))))
  (.seq
   (.seq
    (.call (some 4) 25 [(.var 0), (.var 1)] [])
   (.seq
    (.chk [(.proj 1 (.var 4))])
   (.seq
    (.set 5 (.proj 0 (.var 4)))
   (.set 6 (.proj 1 (.var 4))))))
  (.seq
   (.cond (.bin .neq (.var 6) (.const (.int .i64 0)))
     (.seq
      (.seq
       (.chk [(.var 6)])
      (.seq
       (.set 2 (.const (.pointer none)))
      (.set 3 (.var 6))))
     .ret)
     .skip)
  (.seq
   (.seq
    (.set 2 (.ld none (.offp 1 (.nn (.var 5)))))
   (.set 3 (.const (.int .i64 0))))
  .ret))))
abbrev v_bmap_Map_Cell : List Nat := [0, 1, 4, 5, 11, 6, 7]
abbrev k_bmap_Map_Cell : List (List Nat) := []
abbrev r_bmap_Map_Cell : List Ex := [(.var 2), (.var 3)]
theorem ok_bmap_Map_Cell : compile Try.prog Try.f7 v_bmap_Map_Cell k_bmap_Map_Cell = some (c_bmap_Map_Cell, r_bmap_Map_Cell) := by kernel_rfl

/- (*tipstaff/bmap.Map).Push -/
def c_bmap_Map_Push : Cmd :=
  (.seq
   (.set 3 (.const (.int .i64 0)))
  (.seq
   (.seq
    (.seq
     (.call (some 4) 18 [(.var 0)] [])
    (.set 5 (.var 4)))
   (.cond (.bin .neq (.var 5) (.const (.int .i64 0)))
     (.seq
      (.set 3 (.var 5))
     .ret)
     .skip))
  (.seq
   (.block 0
     (.seq
      (.seq
       (.call (some 6) 36 [(.var 0)] [])
      (.set 7 (.pick (.pick (.un .not (.var 6)) (.const (.bool true)) (.bin .neq (.len false (.var 1)) (.ld none (.offp 2 (.offp 0 (.nn (.var 0))))))) (.const (.bool true)) (.bin .neq (.var 2) (.const (.int .u64 0))))))
     (.cond (.var 7)
       (.seq
        (.set 3 (.const (.int .i64 22)))
       .ret)
       (.seq
        (.seq
         .draw
        (.set 8 (.bin .eql (.len false (.ld none (.offp 4 (.nn (.var 0))))) (.ld none (.offp 3 (.offp 0 (.nn (.var 0))))))))
       (.cond (.var 8)
         (.seq
          (.set 3 (.const (.int .i64 7)))
         .ret)
         .skip)))))
  (.seq
   (.seq
    .draw
   (.seq
    (.set 13 (.ld none (.offp 4 (.nn (.var 0)))))
   (.seq
    (.call (some 9) 34 [(.var 1)] [(.ld none (.offp 4 (.nn (.var 0))))])
   (.seq
    (.chk [(.upd 0 1 (.const (.agg #[(.slice none 0 0)])) (.var 9))])
   (.seq
    (.new (some 10) 60 (.upd 0 1 (.const (.agg #[(.slice none 0 0)])) (.var 9)) [(.ld none (.offp 4 (.nn (.var 0))))])
   (.seq
    (.chk [(.upd 1 1 (.const (.agg #[(.string ⟨#[]⟩), (.pointer none), (.int .i64 0)])) (.var 10))])
   (.seq
    (.new (some 11) 62 (.upd 1 1 (.const (.agg #[(.string ⟨#[]⟩), (.pointer none), (.int .i64 0)])) (.var 10)) [(.ld none (.offp 4 (.nn (.var 0))))])
   (.seq
    (.row (some 12) 57 1 (.upd 0 1 (.const (.agg #[(.pointer none)])) (.var 11)) [(.ld none (.offp 4 (.nn (.var 0))))])
   (.seq
    (.bi (some 14) .append [54, 54] 54 [(.var 13), (.var 12)] [])
   (.store 1 (.offp 4 (.nn (.var 0))) (.var 14) []))))))))))
  (.seq
   (.set 3 (.const (.int .i64 0)))
  .ret)))))
abbrev v_bmap_Map_Push : List Nat := [0, 1, 2, 6, 9, 7, 15, 13, 31, 49, 51, 53, 54, 47, 55]
abbrev k_bmap_Map_Push : List (List Nat) := []
abbrev r_bmap_Map_Push : List Ex := [(.var 3)]
abbrev v_bmap_Map_Peek : List Nat := [0, 2, 3, 8, 4, 5, 27]
abbrev k_bmap_Map_Peek : List (List Nat) := []
abbrev r_bmap_Map_Peek : List Ex := [(.var 1), (.var 2)]
abbrev v_bmap_Map_Pop : List Nat := [0, 2, 3, 10, 4, 16, 5, 6, 24, 7, 8, 35]
abbrev k_bmap_Map_Pop : List (List Nat) := []
abbrev r_bmap_Map_Pop : List Ex := [(.var 1), (.var 2)]
/- (*tipstaff/bmap.Map).Freeze -/
def c_bmap_Map_Freeze : Cmd :=
  (.seq
   (.set 1 (.const (.int .i64 0)))
  (.seq
   (.block 0
     (.seq
      (.set 2 (.isnil 0 false (.var 0)))
     (.cond (.var 2)
       (.seq
        (.set 1 (.const (.int .i64 22)))
       .ret)
       (.seq
        (.set 3 (.ld none (.offp 5 (.nn (.var 0)))))
       (.cond (.var 3)
         (.seq
          (.set 1 (.const (.int .i64 16)))
         .ret)
         .skip)))))
  (.seq
   (.store 1 (.offp 5 (.nn (.var 0))) (.const (.bool true)) [])
  (.seq
   (.set 1 (.const (.int .i64 0)))
  .ret))))
abbrev v_bmap_Map_Freeze : List Nat := [0, 2, 3, 6]
abbrev k_bmap_Map_Freeze : List (List Nat) := []
abbrev r_bmap_Map_Freeze : List Ex := [(.var 1)]
theorem ok_bmap_Map_Freeze : compile Try.prog Try.f14 v_bmap_Map_Freeze k_bmap_Map_Freeze = some (c_bmap_Map_Freeze, r_bmap_Map_Freeze) := by kernel_rfl

/- (*tipstaff/bmap.Map).Frozen -/
def c_bmap_Map_Frozen : Cmd :=
  (.seq
   (.set 1 (.const (.bool false)))
  (.seq
   (.set 1 (.pick (.isnil 0 true (.var 0)) (.ld none (.offp 5 (.nn (.var 0)))) (.const (.bool false))))
  .ret))
abbrev v_bmap_Map_Frozen : List Nat := [0, 2]
abbrev k_bmap_Map_Frozen : List (List Nat) := []
abbrev r_bmap_Map_Frozen : List Ex := [(.var 1)]
theorem ok_bmap_Map_Frozen : compile Try.prog Try.f49 v_bmap_Map_Frozen k_bmap_Map_Frozen = some (c_bmap_Map_Frozen, r_bmap_Map_Frozen) := by kernel_rfl

/- (*tipstaff/bmap.Map).find -/
def c_bmap_Map_find : Cmd :=
  (.seq
   (.seq
    (.set 2 (.const (.pointer none)))
   (.set 3 (.const (.int .i64 0))))
  (.seq
   (.seq
    (.call (some 4) 19 [(.var 0), (.var 1)] [])
   (.cond (.un .not (.var 4))
     (.seq
      (.seq
       (.set 2 (.const (.pointer none)))
      (.set 3 (.const (.int .i64 22))))
     .ret)
     .skip))
  (.seq
   (.seq
    (.call (some 5) 20 [(.var 0), (.var 1)] [])
   (.set 6 (.var 5)))
  (.seq
   (.cond (.bin .eql (.ld none (.offp 0 (.offp 0 (.nn (.var 0))))) (.const (.int .i64 5)))
     (.seq
      (.call (some 7) 46 [(.var 0), (.var 1)] [])
     (.set 6 (.var 7)))
     .skip)
  (.seq
   (.cond (.isnil 0 false (.var 6))
     (.seq
      (.seq
       (.set 2 (.const (.pointer none)))
      (.set 3 (.const (.int .i64 2))))
     .ret)
     .skip)
  (.seq
   (.call none 24 [(.var 0), (.var 6)] [])
  (.seq
   (.seq
    (.set 2 (.var 6))
   (.set 3 (.const (.int .i64 0))))
  .ret)))))))
abbrev v_bmap_Map_find : List Nat := [0, 1, 4, 5, 9, 13, 6, 22]
abbrev k_bmap_Map_find : List (List Nat) := []
abbrev r_bmap_Map_find : List Ex := [(.var 2), (.var 3)]
theorem ok_bmap_Map_find : compile Try.prog Try.f25 v_bmap_Map_find k_bmap_Map_find = some (c_bmap_Map_find, r_bmap_Map_find) := by kernel_rfl

/- bytes.Clone -/
def c_bytes_Clone : Cmd :=
  (.seq
   (.set 1 (.const (.slice none 0 0)))
  (.seq
   (.cond (.isnil 1 false (.var 0))
     (.seq
      (.set 1 (.const (.slice none 0 0)))
     .ret)
     .skip)
  (.seq
   (.seq
    (.row (some 2) 5 0 (.const (.agg #[])) [])
   (.seq
    (.bi (some 3) .append [22, 22] 22 [(.var 2), (.var 0)] [])
   (.set 1 (.var 3))))
  .ret)))
abbrev v_bytes_Clone : List Nat := [0, 2, 5, 7]
abbrev k_bytes_Clone : List (List Nat) := []
abbrev r_bytes_Clone : List Ex := [(.var 1)]
theorem ok_bytes_Clone : compile Try.prog Try.f34 v_bytes_Clone k_bytes_Clone = some (c_bytes_Clone, r_bytes_Clone) := by kernel_rfl

/- (*tipstaff/bmap.Map).changes -/
def c_bmap_Map_changes : Cmd :=
  (.seq
   (.set 1 (.const (.int .i64 0)))
  (.seq
   (.block 0
     (.seq
      (.set 2 (.isnil 0 false (.var 0)))
     (.cond (.var 2)
       (.seq
        (.set 1 (.const (.int .i64 22)))
       .ret)
       (.seq
        (.set 3 (.ld none (.offp 5 (.nn (.var 0)))))
       (.cond (.var 3)
         (.seq
          (.set 1 (.const (.int .i64 1)))
         .ret)
         .skip)))))
  (.seq
   (.set 1 (.const (.int .i64 0)))
  .ret)))
abbrev v_bmap_Map_changes : List Nat := [0, 2, 3, 6]
abbrev k_bmap_Map_changes : List (List Nat) := []
abbrev r_bmap_Map_changes : List Ex := [(.var 1)]
theorem ok_bmap_Map_changes : compile Try.prog Try.f18 v_bmap_Map_changes k_bmap_Map_changes = some (c_bmap_Map_changes, r_bmap_Map_changes) := by kernel_rfl

/- (*tipstaff/bmap.Map).right -/
def c_bmap_Map_right : Cmd :=
  (.seq
   (.set 2 (.const (.bool false)))
  (.seq
   (.seq
    (.seq
     (.chk [(.pick (.isnil 0 false (.var 0)) (.const (.bool false)) (.var 0))])
    (.cond (.pick (.isnil 0 false (.var 0)) (.const (.bool false)) (.const (.bool true)))
      (.call (some 3) 36 [(.var 0)] [])
      (.clr [3])))
   (.cond (.pick (.pick (.isnil 0 false (.var 0)) (.const (.bool true)) (.var 3)) (.const (.bool true)) (.bin .neq (.len false (.var 1)) (.ld none (.offp 1 (.offp 0 (.nn (.var 0)))))))
     (.seq
      (.set 2 (.const (.bool false)))
     .ret)
     .skip))
  (.seq
   (.seq
    (.set 5 (.bin .neq (.ld none (.offp 0 (.offp 0 (.nn (.var 0))))) (.const (.int .i64 5))))
   (.seq
    (.chk [(.pick (.var 5) (.const (.bool false)) (.var 1))])
   (.seq
    (.cond (.pick (.var 5) (.const (.bool false)) (.const (.bool true)))
      (.call (some 4) 37 [(.var 1)] [])
      (.clr [4]))
   (.set 2 (.pick (.var 5) (.const (.bool true)) (.bin .leq (.var 4) (.bin .mul (.const (.int .i64 8)) (.bin .sub (.len false (.var 1)) (.const (.int .i64 4))))))))))
  .ret)))
abbrev v_bmap_Map_right : List Nat := [0, 1, 4, 9, 29, 27]
abbrev k_bmap_Map_right : List (List Nat) := []
abbrev r_bmap_Map_right : List Ex := [(.var 2)]
theorem ok_bmap_Map_right : compile Try.prog Try.f19 v_bmap_Map_right k_bmap_Map_right = some (c_bmap_Map_right, r_bmap_Map_right) := by kernel_rfl

/- (*tipstaff/bmap.Map).exact -/
def c_bmap_Map_exact : Cmd :=
  (.seq
   (.set 2 (.const (.pointer none)))
  (.seq
   (.seq
    (.call (some 3) 23 [(.var 0), (.var 1)] [])
   (.seq
    (.new (some 4) 9 (.const (.string ⟨#[]⟩)) [])
   (.store 1 (.var 4) (.var 3) [])))
  (.seq
   (.seq
    (.chk [(.cap1 (.const (.func (.func 39) #[] #[])) (.var 4))])
   (.seq
    (.call (some 5) 38 [(.ld none (.offp 4 (.nn (.var 0)))), (.cap1 (.const (.func (.func 39) #[] #[])) (.var 4))] [])
   (.set 6 (.var 5))))
  (.seq
   (.cond (.bin .lss (.var 6) (.const (.int .i64 0)))
     (.seq
      (.set 2 (.const (.pointer none)))
     .ret)
     .skip)
  (.seq
   (.set 2 (.ld none (.ixSl 1 (.ld none (.offp 4 (.nn (.var 0)))) (.var 6))))
  .ret)))))
abbrev v_bmap_Map_exact : List Nat := [0, 1, 4, 9, 5, 15, 6]
abbrev k_bmap_Map_exact : List (List Nat) := []
abbrev r_bmap_Map_exact : List Ex := [(.var 2)]
theorem ok_bmap_Map_exact : compile Try.prog Try.f20 v_bmap_Map_exact k_bmap_Map_exact = some (c_bmap_Map_exact, r_bmap_Map_exact) := by kernel_rfl

/- (*tipstaff/bmap.Map).flagged -/
def c_bmap_Map_flagged : Cmd :=
  (.seq
   (.set 3 (.const (.int .i64 0)))
  (.seq
   (.block 0
     (.seq
      (.set 4 (.pick (.isnil 0 true (.var 1)) (.bin .eql (.var 2) (.const (.int .u64 1))) (.const (.bool false))))
     (.cond (.var 4)
       (.seq
        (.set 3 (.const (.int .i64 17)))
       .ret)
       (.seq
        (.set 5 (.pick (.isnil 0 false (.var 1)) (.bin .eql (.ld none (.offp 0 (.offp 0 (.nn (.var 0))))) (.const (.int .i64 0))) (.const (.bool false))))
       (.cond (.var 5)
         (.seq
          (.set 3 (.const (.int .i64 7)))
         .ret)
         (.seq
          (.set 6 (.pick (.isnil 0 false (.var 1)) (.bin .eql (.var 2) (.const (.int .u64 2))) (.const (.bool false))))
         (.cond (.var 6)
           (.seq
            (.set 3 (.const (.int .i64 2)))
           .ret)
           .skip)))))))
  (.seq
   (.set 3 (.const (.int .i64 0)))
  .ret)))
abbrev v_bmap_Map_flagged : List Nat := [0, 1, 2, 6, 7, 14, 25]
abbrev k_bmap_Map_flagged : List (List Nat) := []
abbrev r_bmap_Map_flagged : List Ex := [(.var 3)]
theorem ok_bmap_Map_flagged : compile Try.prog Try.f21 v_bmap_Map_flagged k_bmap_Map_flagged = some (c_bmap_Map_flagged, r_bmap_Map_flagged) := by kernel_rfl

/- (*tipstaff/bmap.Map).room -/
def c_bmap_Map_room : Cmd :=
  (.seq
   (.set 1 (.const (.int .i64 0)))
  (.seq
   (.seq
    .draw
   (.cond (.bin .lss (.len false (.ld none (.offp 4 (.nn (.var 0))))) (.ld none (.offp 3 (.offp 0 (.nn (.var 0))))))
     (.seq
      (.set 1 (.const (.int .i64 0)))
     .ret)
     .skip))
  (.seq
   (.cond (.bin .neq (.ld none (.offp 0 (.offp 0 (.nn (.var 0))))) (.const (.int .i64 2)))
     (.seq
      (.set 1 (.const (.int .i64 7)))
     .ret)
     .skip)
  (.seq
   (.seq
    (.call (some 2) 40 [(.ld none (.offp 4 (.nn (.var 0)))), (.const (.func (.func 41) #[] #[]))] [])
   (.seq
    (.new (some 3) 57 (.const (.pointer none)) [])
   (.store 1 (.var 3) (.var 2) [])))
  (.seq
   (.seq
    (.chk [(.cap1 (.const (.func (.func 44) #[] #[])) (.var 3))])
   (.seq
    (.call (some 4) 43 [(.ld none (.offp 4 (.nn (.var 0)))), (.cap1 (.const (.func (.func 44) #[] #[])) (.var 3))] [])
   (.store 1 (.offp 4 (.nn (.var 0))) (.var 4) [])))
  (.seq
   (.set 1 (.const (.int .i64 0)))
  .ret))))))
abbrev v_bmap_Map_room : List Nat := [0, 2, 25, 3, 32]
abbrev k_bmap_Map_room : List (List Nat) := []
abbrev r_bmap_Map_room : List Ex := [(.var 1)]
theorem ok_bmap_Map_room : compile Try.prog Try.f22 v_bmap_Map_room k_bmap_Map_room = some (c_bmap_Map_room, r_bmap_Map_room) := by kernel_rfl

/- (*tipstaff/bmap.Map).plain -/
def c_bmap_Map_plain : Cmd :=
  (.seq
   (.set 2 (.const (.string ⟨#[]⟩)))
  (.seq
   (.cond (.bin .eql (.ld none (.offp 0 (.offp 0 (.nn (.var 0))))) (.const (.int .i64 5)))
     (.seq
      (.call (some 3) 37 [(.var 1)] [])
     (.seq
      (.call (some 4) 45 [(.var 1), (.var 3)] [])
     (.set 1 (.var 4))))
     .skip)
  (.seq
   (.set 2 (.bstr (.var 1)))
  .ret)))
abbrev v_bmap_Map_plain : List Nat := [0, 1, 4, 13, 14]
abbrev k_bmap_Map_plain : List (List Nat) := []
abbrev r_bmap_Map_plain : List Ex := [(.var 2)]
theorem ok_bmap_Map_plain : compile Try.prog Try.f23 v_bmap_Map_plain k_bmap_Map_plain = some (c_bmap_Map_plain, r_bmap_Map_plain) := by kernel_rfl

/- (*tipstaff/bmap.Map).use -/
def c_bmap_Map_use : Cmd :=
  (.seq
   (.store 1 (.offp 6 (.nn (.var 0))) (.bin .add (.ld none (.offp 6 (.nn (.var 0)))) (.const (.int .i64 1))) [])
  (.store 1 (.offp 2 (.nn (.var 1))) (.ld none (.offp 6 (.nn (.var 0)))) []))
abbrev v_bmap_Map_use : List Nat := [0, 1]
abbrev k_bmap_Map_use : List (List Nat) := []
abbrev r_bmap_Map_use : List Ex := []
theorem ok_bmap_Map_use : compile Try.prog Try.f24 v_bmap_Map_use k_bmap_Map_use = some (c_bmap_Map_use, r_bmap_Map_use) := by kernel_rfl

/- slices.DeleteFunc[[]*tipstaff/bmap.entry,*tipstaff/bmap.entry] -/
def c_slices_DeleteFunc : Cmd :=
  (.seq
   (.set 2 (.const (.slice none 0 0)))
  (.seq
   (.seq
    (.call (some 3) 38 [(.var 0), (.var 1)] [])
   (.set 4 (.var 3)))
  (.seq
   (.cond (.bin .eql (.var 4) (.const (.int .i64 (-1))))
     (.seq
      (.set 2 (.var 0))
     .ret)
     .skip)
  (.seq
   (.seq
    (.set 5 (.bin .add (.var 4) (.const (.int .i64 1))))
   (.block 0
     (.loop [0, 1, 4, 5]
       (.seq
        (.cond (.bin .lss (.var 5) (.len false (.var 0)))
          .skip
          (.exit 0))
       (.seq
        (.block 1
          (.seq
           (.set 6 (.ld none (.ixSl 1 (.var 0) (.var 5))))
          (.seq
           (.dyn (some 7) (.var 1) [(.var 6)] [])
          (.cond (.un .not (.var 7))
            (.seq
             (.store 1 (.ixSl 1 (.var 0) (.var 4)) (.var 6) [])
            (.set 4 (.bin .add (.var 4) (.const (.int .i64 1)))))
            .skip))))
       (.set 5 (.bin .add (.var 5) (.const (.int .i64 1)))))))))
  (.seq
   (.bi none .clear [54] 0 [(.slSl 1 (.var 0) (.var 4) (.len false (.var 0)))] [])
  (.seq
   (.set 2 (.slSl 1 (.var 0) (.const (.int .i64 0)) (.var 4)))
  .ret))))))
abbrev v_slices_DeleteFunc : List Nat := [0, 1, 4, 10, 5, 6, 7, 28]
abbrev k_slices_DeleteFunc : List (List Nat) := [[0, 1, 4, 5]]
abbrev r_slices_DeleteFunc : List Ex := [(.var 2)]
theorem ok_slices_DeleteFunc : compile Try.prog Try.f43 v_slices_DeleteFunc k_slices_DeleteFunc = some (c_slices_DeleteFunc, r_slices_DeleteFunc) := by kernel_rfl

/- (*tipstaff/bmap.Map).Delete$1 -/
def c_bmap_Map_Delete_1 : Cmd :=
  (.seq
   (.set 2 (.const (.bool false)))
  (.seq
   (.set 2 (.eqx false .ptr (.var 0) (.ld none (.var 1))))
  .ret))
abbrev v_bmap_Map_Delete_1 : List Nat := [0, 1, 3]
abbrev k_bmap_Map_Delete_1 : List (List Nat) := []
abbrev r_bmap_Map_Delete_1 : List Ex := [(.var 2)]
/- (*tipstaff/bmap.Map).lined -/
def c_bmap_Map_lined : Cmd :=
  (.seq
   (.set 1 (.const (.bool false)))
  (.seq
   (.set 1 (.pick (.bin .eql (.ld none (.offp 0 (.offp 0 (.nn (.var 0))))) (.const (.int .i64 3))) (.const (.bool true)) (.bin .eql (.ld none (.offp 0 (.offp 0 (.nn (.var 0))))) (.const (.int .i64 4)))))
  .ret))
abbrev v_bmap_Map_lined : List Nat := [0, 2]
abbrev k_bmap_Map_lined : List (List Nat) := []
abbrev r_bmap_Map_lined : List Ex := [(.var 1)]
theorem ok_bmap_Map_lined : compile Try.prog Try.f36 v_bmap_Map_lined k_bmap_Map_lined = some (c_bmap_Map_lined, r_bmap_Map_lined) := by kernel_rfl

/- (*tipstaff/bmap.Map).next -/
def c_bmap_Map_next : Cmd :=
  (.seq
   (.seq
    (.set 1 (.const (.int .i64 0)))
   (.set 2 (.const (.int .i64 0))))
  (.seq
   (.block 0
     (.seq
      (.seq
       (.chk [(.pick (.isnil 0 false (.var 0)) (.const (.bool false)) (.var 0))])
      (.seq
       (.cond (.pick (.isnil 0 false (.var 0)) (.const (.bool false)) (.const (.bool true)))
         (.call (some 3) 36 [(.var 0)] [])
         (.clr [3]))
      (.set 4 (.pick (.isnil 0 false (.var 0)) (.const (.bool true)) (.un .not (.var 3))))))
     (.cond (.var 4)
       (.seq
        (.seq
         (.set 1 (.const (.int .i64 0)))
        (.set 2 (.const (.int .i64 22))))
       .ret)
       (.seq
        (.set 5 (.bin .eql (.len false (.ld none (.offp 4 (.nn (.var 0))))) (.const (.int .i64 0))))
       (.cond (.var 5)
         (.seq
          (.seq
           (.set 1 (.const (.int .i64 0)))
          (.set 2 (.const (.int .i64 2))))
         .ret)
         (.seq
          (.set 6 (.bin .eql (.ld none (.offp 0 (.offp 0 (.nn (.var 0))))) (.const (.int .i64 4))))
         (.cond (.var 6)
           (.seq
            (.seq
             (.set 1 (.bin .sub (.len false (.ld none (.offp 4 (.nn (.var 0))))) (.const (.int .i64 1))))
            (.set 2 (.const (.int .i64 0))))
           .ret)
           .skip)))))))
  (.seq
   (.seq
    (.set 1 (.const (.int .i64 0)))
   (.set 2 (.const (.int .i64 0))))
  .ret)))
abbrev v_bmap_Map_next : List Nat := [0, 2, 3, 9, 4, 12, 19]
abbrev k_bmap_Map_next : List (List Nat) := []
abbrev r_bmap_Map_next : List Ex := [(.var 1), (.var 2)]
/- slices.Delete[[]*tipstaff/bmap.entry,*tipstaff/bmap.entry] -/
def c_slices_Delete : Cmd :=
  (.seq
   (.set 3 (.const (.slice none 0 0)))
  (.seq
   (.sem none (.sl3 54) [(.var 0), (.var 1), (.var 2), (.len false (.var 0))] [])
  (.seq
   (.cond (.bin .eql (.var 1) (.var 2))
     (.seq
      (.set 3 (.var 0))
     .ret)
     .skip)
  (.seq
   (.set 4 (.len false (.var 0)))
  (.seq
   (.seq
    .draw
   (.seq
    (.bi (some 5) .append [54, 54] 54 [(.slSl 1 (.var 0) (.const (.int .i64 0)) (.var 1)), (.slSl 1 (.var 0) (.var 2) (.len false (.var 0)))] [])
   (.set 0 (.var 5))))
  (.seq
   (.bi none .clear [54] 0 [(.slSl 1 (.var 0) (.len false (.var 0)) (.var 4))] [])
  (.seq
   (.set 3 (.var 0))
  .ret)))))))
abbrev v_slices_Delete : List Nat := [0, 1, 2, 6, 7, 26]
abbrev k_slices_Delete : List (List Nat) := []
abbrev r_slices_Delete : List Ex := [(.var 3)]
/- tipstaff/bmap.within -/
def c_bmap_within : Cmd :=
  (.seq
   (.set 3 (.const (.bool false)))
  (.seq
   (.set 3 (.pick (.bin .geq (.var 0) (.var 1)) (.bin .leq (.var 0) (.var 2)) (.const (.bool false))))
  .ret))
abbrev v_bmap_within : List Nat := [0, 1, 2, 6]
abbrev k_bmap_within : List (List Nat) := []
abbrev r_bmap_within : List Ex := [(.var 3)]
theorem ok_bmap_within : compile Try.prog Try.f35 v_bmap_within k_bmap_within = some (c_bmap_within, r_bmap_within) := by kernel_rfl

/- tipstaff/bmap.counted -/
def c_bmap_counted : Cmd :=
  (.seq
   (.set 1 (.const (.int .i64 0)))
  (.seq
   (.set 2 (.const (.int .i64 0)))
  (.seq
   (.seq
    (.seq
     (.set 5 (.slSl 1 (.var 0) (.const (.int .i64 0)) (.const (.int .i64 4))))
    (.seq
     (.set 4 (.len false (.var 5)))
    (.set 3 (.const (.int .i64 0)))))
   (.block 0
     (.loop [2, 3, 4, 5]
       (.seq
        (.cond (.bin .lss (.var 3) (.var 4))
          .skip
          (.exit 0))
       (.seq
        (.block 1
          (.seq
           (.seq
            (.chk [(.ld none (.ixSl 1 (.var 5) (.var 3)))])
           (.seq
            (.set 6 (.var 3))
           (.set 7 (.ld none (.ixSl 1 (.var 5) (.var 3))))))
          (.set 2 (.bin .or (.var 2) (.bin .shl (.conv .i64 (.var 7)) (.bin .mul (.const (.int .i64 8)) (.var 6)))))))
       (.set 3 (.bin .add (.var 3) (.const (.int .i64 1)))))))))
  (.seq
   (.set 1 (.var 2))
  .ret))))
abbrev v_bmap_counted : List Nat := [0, 2, 3, 9, 8, 7, 4, 5]
abbrev k_bmap_counted : List (List Nat) := [[2, 3, 4, 5]]
abbrev r_bmap_counted : List Ex := [(.var 1)]
theorem ok_bmap_counted : compile Try.prog Try.f37 v_bmap_counted k_bmap_counted = some (c_bmap_counted, r_bmap_counted) := by kernel_rfl

/- tipstaff/bmap.Check -/
def c_bmap_Check : Cmd :=
  (.seq
   (.seq
    (.new (some 2) 29 (.var 0) [])
   (.set 1 (.const (.int .i64 0))))
  (.seq
   (.seq
    (.call (some 3) 35 [(.ld none (.offp 2 (.var 2))), (.const (.int .i64 1)), (.const (.int .i64 64))] [])
   (.seq
    (.chk [(.pick (.var 3) (.ld none (.offp 3 (.var 2))) (.const (.bool false)))])
   (.seq
    (.cond (.pick (.var 3) (.const (.bool true)) (.const (.bool false)))
      (.call (some 4) 35 [(.ld none (.offp 3 (.var 2))), (.const (.int .i64 1)), (.const (.int .i64 64))] [])
      (.clr [4]))
   (.set 5 (.pick (.var 3) (.var 4) (.const (.bool false)))))))
  (.seq
   (.seq
    (.set 6 (.ld none (.offp 0 (.var 2))))
   (.block 0
     (.seq
      (.set 7 (.bin .eql (.var 6) (.const (.int .i64 0))))
     (.cond (.var 7)
       (.set 5 (.pick (.var 5) (.bin .eql (.ld none (.offp 1 (.var 2))) (.const (.int .i64 4))) (.const (.bool false))))
       (.seq
        (.seq
         (.set 8 (.bin .eql (.var 6) (.const (.int .i64 1))))
        (.cond (.var 8)
          .skip
          (.set 8 (.bin .eql (.var 6) (.const (.int .i64 2))))))
       (.cond (.var 8)
         (.seq
          (.chk [(.pick (.var 5) (.ld none (.offp 1 (.var 2))) (.const (.bool false)))])
         (.seq
          (.cond (.pick (.var 5) (.const (.bool true)) (.const (.bool false)))
            (.call (some 9) 35 [(.ld none (.offp 1 (.var 2))), (.const (.int .i64 1)), (.const (.int .i64 16))] [])
            (.clr [9]))
         (.set 5 (.pick (.var 5) (.var 9) (.const (.bool false))))))
         (.seq
          (.seq
           (.set 10 (.bin .eql (.var 6) (.const (.int .i64 3))))
          (.cond (.var 10)
            .skip
            (.set 10 (.bin .eql (.var 6) (.const (.int .i64 4))))))
         (.cond (.var 10)
           (.set 5 (.pick (.var 5) (.bin .eql (.ld none (.offp 1 (.var 2))) (.const (.int .i64 0))) (.const (.bool false))))
           (.seq
            (.set 11 (.bin .eql (.var 6) (.const (.int .i64 5))))
           (.cond (.var 11)
             (.seq
              (.chk [(.pick (.var 5) (.ld none (.offp 1 (.var 2))) (.const (.bool false)))])
             (.seq
              (.cond (.pick (.var 5) (.const (.bool true)) (.const (.bool false)))
                (.call (some 12) 35 [(.ld none (.offp 1 (.var 2))), (.const (.int .i64 5)), (.const (.int .i64 16))] [])
                (.clr [12]))
             (.set 5 (.pick (.var 5) (.var 12) (.const (.bool false))))))
             (.set 5 (.const (.bool false)))))))))))))
  (.seq
   (.cond (.un .not (.var 5))
     (.seq
      (.set 1 (.const (.int .i64 22)))
     .ret)
     .skip)
  (.seq
   (.set 1 (.const (.int .i64 0)))
  .ret)))))
abbrev v_bmap_Check : List Nat := [0, 2, 1, 6, 10, 3, 13, 14, 22, 29, 31, 40, 46]
abbrev k_bmap_Check : List (List Nat) := []
abbrev r_bmap_Check : List Ex := [(.var 1)]
theorem ok_bmap_Check : compile Try.prog Try.f16 v_bmap_Check k_bmap_Check = some (c_bmap_Check, r_bmap_Check) := by kernel_rfl

/- tipstaff/bmap.New -/
def c_bmap_New : Cmd :=
  (.seq
   (.seq
    (.new (some 3) 29 (.var 0) [])
   (.seq
    (.set 1 (.const (.pointer none)))
   (.set 2 (.const (.int .i64 0)))))
  (.seq
   (.seq
    (.seq
     (.call (some 4) 16 [(.ld (some 4) (.var 3))] [])
    (.set 5 (.var 4)))
   (.cond (.bin .neq (.var 5) (.const (.int .i64 0)))
     (.seq
      (.seq
       (.chk [(.var 5)])
      (.seq
       (.set 1 (.const (.pointer none)))
      (.set 2 (.var 5))))
     .ret)
     .skip))
  (.seq
   (.seq
    (.chk [(.upd 0 4 (.const (.agg #[(.int .i64 0), (.int .i64 0), (.int .i64 0), (.int .i64 0), (.slice none 0 0), (.bool false), (.int .i64 0)])) (.ld (some 4) (.var 3)))])
   (.seq
    (.new (some 6) 56 (.upd 0 4 (.const (.agg #[(.int .i64 0), (.int .i64 0), (.int .i64 0), (.int .i64 0), (.slice none 0 0), (.bool false), (.int .i64 0)])) (.ld (some 4) (.var 3))) [])
   (.set 7 (.var 6))))
  (.seq
   (.cond (.bin .eql (.ld none (.offp 0 (.var 3))) (.const (.int .i64 0)))
     (.seq
      (.seq
       (.set 9 (.ld none (.offp 3 (.var 3))))
      (.set 8 (.const (.int .i64 0))))
     (.block 0
       (.loop [3, 7, 8, 9]
         (.seq
          (.cond (.bin .lss (.var 8) (.var 9))
            .skip
            (.exit 0))
         (.seq
          (.block 1
            (.seq
             (.set 10 (.var 8))
            (.seq
             .draw
            (.seq
             (.set 18 (.ld none (.offp 4 (.nn (.var 7)))))
            (.seq
             (.chk [(.var 10)])
            (.seq
             (.set 12 (.ld none (.offp 2 (.var 3))))
            (.alt
             (.seq
              (.call (some 11) 17 [(.var 10)] [(.ld none (.offp 2 (.var 3))), (.ld none (.offp 4 (.nn (.var 7))))])
             (.seq
              (.set 15 (.bstr (.var 11)))
             (.seq
              (.sem (some 13) (.mk 22) [(.var 12), (.var 12)] [(.bstr (.var 11)), (.ld none (.offp 4 (.nn (.var 7))))])
             (.seq
              (.chk [(.upd 0 1 (.const (.agg #[(.slice none 0 0)])) (.var 13))])
             (.seq
              (.new (some 14) 60 (.upd 0 1 (.const (.agg #[(.slice none 0 0)])) (.var 13)) [(.bstr (.var 11)), (.ld none (.offp 4 (.nn (.var 7))))])
             (.seq
              (.chk [(.upd 1 1 (.upd 0 1 (.const (.agg #[(.string ⟨#[]⟩), (.pointer none), (.int .i64 0)])) (.var 15)) (.var 14))])
             (.seq
              (.new (some 16) 62 (.upd 1 1 (.upd 0 1 (.const (.agg #[(.string ⟨#[]⟩), (.pointer none), (.int .i64 0)])) (.var 15)) (.var 14)) [(.ld none (.offp 4 (.nn (.var 7))))])
             (.seq
              (.row (some 17) 57 1 (.upd 0 1 (.const (.agg #[(.pointer none)])) (.var 16)) [(.ld none (.offp 4 (.nn (.var 7))))])
             (.seq
              (.bi (some 19) .append [54, 54] 54 [(.var 18), (.var 17)] [])
             (.store 1 (.offp 4 (.nn (.var 7))) (.var 19) []))))))))))
            (.seq
             (.sem (some 13) (.mk 22) [(.var 12), (.var 12)] [(.ld none (.offp 2 (.var 3))), (.ld none (.offp 4 (.nn (.var 7))))])
            (.alt
             (.seq
              (.chk [(.upd 0 1 (.const (.agg #[(.slice none 0 0)])) (.var 13))])
             (.seq
              (.call (some 11) 17 [(.var 10)] [(.ld none (.offp 2 (.var 3))), (.ld none (.offp 4 (.nn (.var 7))))])
             (.seq
              (.set 15 (.bstr (.var 11)))
             (.seq
              (.new (some 14) 60 (.upd 0 1 (.const (.agg #[(.slice none 0 0)])) (.var 13)) [(.bstr (.var 11)), (.ld none (.offp 4 (.nn (.var 7))))])
             (.seq
              (.chk [(.upd 1 1 (.upd 0 1 (.const (.agg #[(.string ⟨#[]⟩), (.pointer none), (.int .i64 0)])) (.var 15)) (.var 14))])
             (.seq
              (.new (some 16) 62 (.upd 1 1 (.upd 0 1 (.const (.agg #[(.string ⟨#[]⟩), (.pointer none), (.int .i64 0)])) (.var 15)) (.var 14)) [(.ld none (.offp 4 (.nn (.var 7))))])
             (.seq
              (.row (some 17) 57 1 (.upd 0 1 (.const (.agg #[(.pointer none)])) (.var 16)) [(.ld none (.offp 4 (.nn (.var 7))))])
             (.seq
              (.bi (some 19) .append [54, 54] 54 [(.var 18), (.var 17)] [])
             (.store 1 (.offp 4 (.nn (.var 7))) (.var 19) [])))))))))
            (.seq
             (.chk [(.upd 0 1 (.const (.agg #[(.slice none 0 0)])) (.var 13))])
            (.seq
             (.new (some 14) 60 (.upd 0 1 (.const (.agg #[(.slice none 0 0)])) (.var 13)) [(.ld none (.offp 2 (.var 3))), (.ld none (.offp 4 (.nn (.var 7))))])
            (.seq
             (.call (some 11) 17 [(.var 10)] [(.ld none (.offp 2 (.var 3))), (.ld none (.offp 4 (.nn (.var 7))))])
            (.seq
             (.set 15 (.bstr (.var 11)))
            (.seq
             (.chk [(.upd 1 1 (.upd 0 1 (.const (.agg #[(.string ⟨#[]⟩), (.pointer none), (.int .i64 0)])) (.var 15)) (.var 14))])
            (.seq
             (.new (some 16) 62 (.upd 1 1 (.upd 0 1 (.const (.agg #[(.string ⟨#[]⟩), (.pointer none), (.int .i64 0)])) (.var 15)) (.var 14)) [(.ld none (.offp 4 (.nn (.var 7))))])
            (.seq
             (.row (some 17) 57 1 (.upd 0 1 (.const (.agg #[(.pointer none)])) (.var 16)) [(.ld none (.offp 4 (.nn (.var 7))))])
            (.seq
             (.bi (some 19) .append [54, 54] 54 [(.var 18), (.var 17)] [])
            (.store 1 (.offp 4 (.nn (.var 7))) (.var 19) []))))))))))))))))))
         (.set 8 (.bin .add (.var 8) (.const (.int .i64 1)))))))))
     .skip)
  (.seq
   (.seq
    (.set 1 (.var 7))
   (.set 2 (.const (.int .i64 0))))
  .ret)))))
abbrev v_bmap_New : List Nat := [0, 2, 3, 1, 8, 4, 14, 5, 20, 19, 6, 29, 32, 33, 35, 30, 37, 38, 27, 39]
abbrev k_bmap_New : List (List Nat) := [[3, 7, 8, 9]]
abbrev r_bmap_New : List Ex := [(.var 1), (.var 2)]
theorem ok_bmap_New : compile Try.prog Try.f4 v_bmap_New k_bmap_New = some (c_bmap_New, r_bmap_New) := by kernel_rfl

/- tipstaff/bmap.little -/
def c_bmap_little : Cmd :=
  (.seq
   (.set 1 (.const (.slice none 0 0)))
  (.seq
   (.set 2 (.const (.slice none 0 0)))
  (.seq
   (.seq
    (.set 3 (.const (.int .i64 0)))
   (.block 0
     (.loop [0, 2, 3]
       (.seq
        (.cond (.bin .lss (.var 3) (.const (.int .i64 4)))
          .skip
          (.exit 0))
       (.seq
        (.block 1
          (.seq
           (.set 4 (.var 3))
          (.seq
           (.chk [(.var 2)])
          (.seq
           (.row (some 5) 5 1 (.upd 0 1 (.const (.agg #[(.int .u8 0)])) (.conv .u8 (.bin .shr (.var 0) (.bin .mul (.const (.int .i64 8)) (.var 4))))) [])
          (.seq
           (.bi (some 6) .append [22, 22] 22 [(.var 2), (.var 5)] [])
          (.set 2 (.var 6)))))))
       (.set 3 (.bin .add (.var 3) (.const (.int .i64 1)))))))))
  (.seq
   (.set 1 (.var 2))
  .ret))))
abbrev v_bmap_little : List Nat := [0, 2, 3, 5, 4, 14, 15]
abbrev k_bmap_little : List (List Nat) := [[0, 2, 3]]
abbrev r_bmap_little : List Ex := [(.var 1)]
theorem ok_bmap_little : compile Try.prog Try.f17 v_bmap_little k_bmap_little = some (c_bmap_little, r_bmap_little) := by kernel_rfl

/- tipstaff/bmap.masked -/
def c_bmap_masked : Cmd :=
  (.seq
   (.set 2 (.const (.slice none 0 0)))
  (.seq
   (.seq
    (.call (some 3) 51 [(.var 0)] [])
   (.set 4 (.var 3)))
  (.seq
   (.seq
    (.seq
     (.set 6 (.len false (.slSl 1 (.var 4) (.const (.int .i64 4)) (.len false (.var 4)))))
    (.set 5 (.const (.int .i64 0))))
   (.block 0
     (.loop [1, 4, 5, 6]
       (.seq
        (.cond (.bin .lss (.var 5) (.var 6))
          .skip
          (.exit 0))
       (.seq
        (.block 1
          (.seq
           (.set 7 (.var 5))
          (.seq
           (.set 8 (.mn (.mx (.bin .sub (.var 1) (.bin .mul (.const (.int .i64 8)) (.var 7))) (.const (.int .i64 0))) (.const (.int .i64 8))))
          (.seq
           .draw
          (.store 1 (.ixSl 1 (.var 4) (.bin .add (.const (.int .i64 4)) (.var 7))) (.bin .and (.ld none (.ixSl 1 (.var 4) (.bin .add (.const (.int .i64 4)) (.var 7)))) (.un .xor (.bin .shr (.const (.int .u8 255)) (.var 8)))) [])))))
       (.set 5 (.bin .add (.var 5) (.const (.int .i64 1)))))))))
  (.seq
   (.set 2 (.var 4))
  .ret))))
abbrev v_bmap_masked : List Nat := [0, 1, 4, 9, 5, 13, 12, 6, 7]
abbrev k_bmap_masked : List (List Nat) := [[1, 4, 5, 6]]
abbrev r_bmap_masked : List Ex := [(.var 2)]
theorem ok_bmap_masked : compile Try.prog Try.f45 v_bmap_masked k_bmap_masked = some (c_bmap_masked, r_bmap_masked) := by kernel_rfl

/- bytes.Equal -/
def c_bytes_Equal : Cmd :=
  (.seq
   (.set 2 (.const (.bool false)))
  (.seq
   (.set 2 (.bin .eql (.bstr (.var 0)) (.bstr (.var 1))))
  .ret))
abbrev v_bytes_Equal : List Nat := [0, 1, 4]
abbrev k_bytes_Equal : List (List Nat) := []
abbrev r_bytes_Equal : List Ex := [(.var 2)]
theorem ok_bytes_Equal : compile Try.prog Try.f52 v_bytes_Equal k_bytes_Equal = some (c_bytes_Equal, r_bytes_Equal) := by kernel_rfl

/- slices.Clone[[]byte,byte] -/
def c_slices_Clone : Cmd :=
  (.seq
   (.set 1 (.const (.slice none 0 0)))
  (.seq
   (.cond (.isnil 1 false (.var 0))
     (.seq
      (.set 1 (.const (.slice none 0 0)))
     .ret)
     .skip)
  (.seq
   (.seq
    (.row (some 2) 5 0 (.const (.agg #[])) [])
   (.seq
    (.bi (some 3) .append [22, 22] 22 [(.var 2), (.var 0)] [])
   (.set 1 (.var 3))))
  .ret)))
abbrev v_slices_Clone : List Nat := [0, 2, 5, 7]
abbrev k_slices_Clone : List (List Nat) := []
abbrev r_slices_Clone : List Ex := [(.var 1)]
theorem ok_slices_Clone : compile Try.prog Try.f51 v_slices_Clone k_slices_Clone = some (c_slices_Clone, r_slices_Clone) := by kernel_rfl

/- (*tipstaff/bmap.Map).longest -/
def c_bmap_Map_longest : Cmd :=
  (.seq
   (.set 2 (.const (.pointer none)))
  (.seq
   (.set 3 (.const (.pointer none)))
  (.seq
   (.seq
    (.seq
     (.set 6 (.ld none (.offp 4 (.nn (.var 0)))))
    (.seq
     (.set 5 (.len false (.var 6)))
    (.set 4 (.const (.int .i64 0)))))
   (.block 0
     (.loop [1, 3, 4, 5, 6]
       (.seq
        (.cond (.bin .lss (.var 4) (.var 5))
          .skip
          (.exit 0))
       (.seq
        (.block 1
          (.seq
           (.set 7 (.ld none (.ixSl 1 (.var 6) (.var 4))))
          (.seq
           (.seq
            (.sem (some 8) (.cv 9 22) [(.ld none (.offp 0 (.nn (.var 7))))] [])
           (.set 9 (.var 8)))
          (.seq
           (.seq
            (.call (some 10) 37 [(.var 9)] [])
           (.set 11 (.var 10)))
          (.seq
           (.seq
            (.seq
             .draw
            (.seq
             (.chk [(.var 11)])
            (.seq
             (.call (some 12) 37 [(.var 1)] [])
            (.seq
             (.chk [(.pick (.bin .gtr (.var 11) (.var 12)) (.const (.bool false)) (.slSl 1 (.var 9) (.const (.int .i64 4)) (.len false (.var 9)))), (.pick (.bin .gtr (.var 11) (.var 12)) (.const (.bool false)) (.var 11)), (.pick (.bin .gtr (.var 11) (.var 12)) (.const (.bool false)) (.var 1))])
            (.seq
             (.cond (.pick (.bin .gtr (.var 11) (.var 12)) (.const (.bool false)) (.const (.bool true)))
               (.call (some 13) 45 [(.var 1), (.var 11)] [])
               (.clr [13]))
            (.seq
             (.chk [(.pick (.bin .gtr (.var 11) (.var 12)) (.const (.bool false)) (.slSl 1 (.var 13) (.const (.int .i64 4)) (.len false (.var 13))))])
            (.cond (.pick (.bin .gtr (.var 11) (.var 12)) (.const (.bool false)) (.const (.bool true)))
              (.call (some 14) 52 [(.slSl 1 (.var 13) (.const (.int .i64 4)) (.len false (.var 13))), (.slSl 1 (.var 9) (.const (.int .i64 4)) (.len false (.var 9)))] [])
              (.clr [14]))))))))
           (.cond (.pick (.bin .gtr (.var 11) (.var 12)) (.const (.bool true)) (.un .not (.var 14)))
             (.exit 1)
             .skip))
          (.seq
           (.seq
            (.chk [(.pick (.isnil 0 false (.var 3)) (.const (.bool false)) (.ld none (.offp 0 (.nn (.var 3))))), (.pick (.isnil 0 false (.var 3)) (.const (.bool false)) (.var 11))])
           (.seq
            (.cond (.pick (.isnil 0 false (.var 3)) (.const (.bool false)) (.const (.bool true)))
              (.sem (some 15) (.cv 9 22) [(.ld none (.offp 0 (.nn (.var 3))))] [])
              (.clr [15]))
           (.cond (.pick (.isnil 0 false (.var 3)) (.const (.bool false)) (.const (.bool true)))
             (.call (some 16) 37 [(.var 15)] [])
             (.clr [16]))))
          (.cond (.pick (.isnil 0 false (.var 3)) (.const (.bool true)) (.bin .gtr (.var 11) (.var 16)))
            (.set 3 (.var 7))
            .skip)))))))
       (.set 4 (.bin .add (.var 4) (.const (.int .i64 1)))))))))
  (.seq
   (.set 2 (.var 3))
  .ret))))
abbrev v_bmap_Map_longest : List Nat := [0, 1, 4, 5, 15, 14, 13, 7, 23, 8, 25, 9, 28, 33, 37, 48, 49]
abbrev k_bmap_Map_longest : List (List Nat) := [[1, 3, 4, 5, 6]]
abbrev r_bmap_Map_longest : List Ex := [(.var 2)]
theorem ok_bmap_Map_longest : compile Try.prog Try.f46 v_bmap_Map_longest k_bmap_Map_longest = some (c_bmap_Map_longest, r_bmap_Map_longest) := by kernel_rfl

/- slices.IndexFunc[[]*tipstaff/bmap.entry,*tipstaff/bmap.entry] -/
def c_slices_IndexFunc : Cmd :=
  (.seq
   (.set 2 (.const (.int .i64 0)))
  (.seq
   (.seq
    (.seq
     (.set 4 (.len false (.var 0)))
    (.set 3 (.const (.int .i64 0))))
   (.block 0
     (.loop [0, 1, 3, 4]
       (.seq
        (.cond (.bin .lss (.var 3) (.var 4))
          .skip
          (.exit 0))
       (.seq
        (.block 1
          (.seq
           (.set 5 (.var 3))
          (.seq
           (.dyn (some 6) (.var 1) [(.ld none (.ixSl 1 (.var 0) (.var 5)))] [])
          (.cond (.var 6)
            (.seq
             (.set 2 (.var 5))
            .ret)
            .skip))))
       (.set 3 (.bin .add (.var 3) (.const (.int .i64 1)))))))))
  (.seq
   (.set 2 (.const (.int .i64 (-1))))
  .ret)))
abbrev v_slices_IndexFunc : List Nat := [0, 1, 4, 8, 7, 5, 16]
abbrev k_slices_IndexFunc : List (List Nat) := [[0, 1, 3, 4]]
abbrev r_slices_IndexFunc : List Ex := [(.var 2)]
theorem ok_slices_IndexFunc : compile Try.prog Try.f38 v_slices_IndexFunc k_slices_IndexFunc = some (c_slices_IndexFunc, r_slices_IndexFunc) := by kernel_rfl

/- (*tipstaff/bmap.Map).exact$1 -/
def c_bmap_Map_exact_1 : Cmd :=
  (.seq
   (.set 2 (.const (.bool false)))
  (.seq
   (.seq
    .draw
   (.set 2 (.bin .eql (.ld none (.offp 0 (.nn (.var 0)))) (.ld none (.var 1)))))
  .ret))
abbrev v_bmap_Map_exact_1 : List Nat := [0, 1, 3]
abbrev k_bmap_Map_exact_1 : List (List Nat) := []
abbrev r_bmap_Map_exact_1 : List Ex := [(.var 2)]
theorem ok_bmap_Map_exact_1 : compile Try.prog Try.f39 v_bmap_Map_exact_1 k_bmap_Map_exact_1 = some (c_bmap_Map_exact_1, r_bmap_Map_exact_1) := by kernel_rfl

/- slices.MinFunc[[]*tipstaff/bmap.entry,*tipstaff/bmap.entry] -/
def c_slices_MinFunc : Cmd :=
  (.seq
   (.set 2 (.const (.pointer none)))
  (.seq
   (.cond (.bin .lss (.len false (.var 0)) (.const (.int .i64 1)))
     (.seq
      (.chk [(.mkif 9 (.const (.string ⟨#[115, 108, 105, 99, 101, 115, 46, 77, 105, 110, 70, 117, 110, 99, 58, 32, 101, 109, 112, 116, 121, 32, 108, 105, 115, 116]⟩)))])
     .die)
     .skip)
  (.seq
   (.set 3 (.ld none (.ixSl 1 (.var 0) (.const (.int .i64 0)))))
  (.seq
   (.seq
    (.set 4 (.const (.int .i64 1)))
   (.block 0
     (.loop [0, 1, 3, 4]
       (.seq
        (.cond (.bin .lss (.var 4) (.len false (.var 0)))
          .skip
          (.exit 0))
       (.seq
        (.block 1
          (.seq
           (.dyn (some 5) (.var 1) [(.ld none (.ixSl 1 (.var 0) (.var 4))), (.var 3)] [])
          (.cond (.bin .lss (.var 5) (.const (.int .i64 0)))
            (.set 3 (.ld none (.ixSl 1 (.var 0) (.var 4))))
            .skip)))
       (.set 4 (.bin .add (.var 4) (.const (.int .i64 1)))))))))
  (.seq
   (.set 2 (.var 3))
  .ret)))))
abbrev v_slices_MinFunc : List Nat := [0, 1, 4, 5, 6, 26]
abbrev k_slices_MinFunc : List (List Nat) := [[0, 1, 3, 4]]
abbrev r_slices_MinFunc : List Ex := [(.var 2)]
theorem ok_slices_MinFunc : compile Try.prog Try.f40 v_slices_MinFunc k_slices_MinFunc = some (c_slices_MinFunc, r_slices_MinFunc) := by kernel_rfl

/- (*tipstaff/bmap.Map).room$1 -/
def c_bmap_Map_room_1 : Cmd :=
  (.seq
   (.set 2 (.const (.int .i64 0)))
  (.seq
   (.seq
    .draw
   (.seq
    (.call (some 3) 42 [(.ld none (.offp 2 (.nn (.var 0)))), (.ld none (.offp 2 (.nn (.var 1))))] [])
   (.set 2 (.var 3))))
  .ret))
abbrev v_bmap_Map_room_1 : List Nat := [0, 1, 4, 13]
abbrev k_bmap_Map_room_1 : List (List Nat) := []
abbrev r_bmap_Map_room_1 : List Ex := [(.var 2)]
theorem ok_bmap_Map_room_1 : compile Try.prog Try.f41 v_bmap_Map_room_1 k_bmap_Map_room_1 = some (c_bmap_Map_room_1, r_bmap_Map_room_1) := by kernel_rfl

/- cmp.Compare[int] -/
def c_cmp_Compare : Cmd :=
  (.seq
   (.set 2 (.const (.int .i64 0)))
  (.seq
   (.seq
    (.call (some 3) 50 [(.var 0)] [])
   (.set 4 (.var 3)))
  (.seq
   (.seq
    (.call (some 5) 50 [(.var 1)] [])
   (.set 6 (.var 5)))
  (.seq
   (.cond (.var 4)
     (.seq
      (.cond (.var 6)
        (.seq
         (.set 2 (.const (.int .i64 0)))
        .ret)
        .skip)
     (.seq
      (.set 2 (.const (.int .i64 (-1))))
     .ret))
     .skip)
  (.seq
   (.cond (.var 6)
     (.seq
      (.set 2 (.const (.int .i64 1)))
     .ret)
     .skip)
  (.seq
   (.cond (.bin .lss (.var 0) (.var 1))
     (.seq
      (.set 2 (.const (.int .i64 (-1))))
     .ret)
     .skip)
  (.seq
   (.cond (.bin .gtr (.var 0) (.var 1))
     (.seq
      (.set 2 (.const (.int .i64 1)))
     .ret)
     .skip)
  (.seq
   (.set 2 (.const (.int .i64 0)))
  .ret))))))))
abbrev v_cmp_Compare : List Nat := [0, 1, 4, 8, 5, 10, 6]
abbrev k_cmp_Compare : List (List Nat) := []
abbrev r_cmp_Compare : List Ex := [(.var 2)]
theorem ok_cmp_Compare : compile Try.prog Try.f42 v_cmp_Compare k_cmp_Compare = some (c_cmp_Compare, r_cmp_Compare) := by kernel_rfl

/- (*tipstaff/bmap.Map).room$2 -/
def c_bmap_Map_room_2 : Cmd :=
  (.seq
   (.set 2 (.const (.bool false)))
  (.seq
   (.set 2 (.eqx false .ptr (.var 0) (.ld none (.var 1))))
  .ret))
abbrev v_bmap_Map_room_2 : List Nat := [0, 1, 3]
abbrev k_bmap_Map_room_2 : List (List Nat) := []
abbrev r_bmap_Map_room_2 : List Ex := [(.var 2)]
theorem ok_bmap_Map_room_2 : compile Try.prog Try.f44 v_bmap_Map_room_2 k_bmap_Map_room_2 = some (c_bmap_Map_room_2, r_bmap_Map_room_2) := by kernel_rfl

/- cmp.isNaN[int] -/
def c_cmp_isNaN : Cmd :=
  (.seq
   (.set 1 (.const (.bool false)))
  (.seq
   (.set 1 (.bin .neq (.var 0) (.var 0)))
  .ret))
abbrev v_cmp_isNaN : List Nat := [0, 2]
abbrev k_cmp_isNaN : List (List Nat) := []
abbrev r_cmp_isNaN : List Ex := [(.var 1)]
theorem ok_cmp_isNaN : compile Try.prog Try.f50 v_cmp_isNaN k_cmp_isNaN = some (c_cmp_isNaN, r_cmp_isNaN) := by kernel_rfl

end Go.Proofs.Ythfchnaocbkofaa
