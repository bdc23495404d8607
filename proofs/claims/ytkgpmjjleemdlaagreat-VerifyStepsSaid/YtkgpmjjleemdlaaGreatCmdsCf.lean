/- Commands of functions, and that they are what the code comes to. -/
import Derived.Test.YtkgpmjjleemdlaaGreatEngO
import Derived.Test.YtkgpmjjleemdlaaGreatRows
namespace Go.Proofs.YtkgpmjjleemdlaaGreat
open Go.Eng
/- tipstaff/cfg.kind -/
def c_cfg_kind : Cmd :=
  (.seq
   (.seq
    (.new (some 2) 28 (.var 0) [])
   (.set 1 (.const (.int .i64 0))))
  (.seq
   (.seq
    (.call (some 3) 24 [(.ld none (.offp 0 (.var 2)))] [])
   (.set 1 (.part none 0 (.var 3))))
  .ret))
abbrev v_cfg_kind : List Nat := [0, 2, 1, 5]
abbrev k_cfg_kind : List (List Nat) := []
abbrev r_cfg_kind : List Ex := [(.var 1)]
theorem ok_cfg_kind : compile Tryz.prog Tryz.f47 v_cfg_kind k_cfg_kind = some (c_cfg_kind, r_cfg_kind) := by kernel_rfl

/- tipstaff/cfg.behind -/
def c_cfg_behind : Cmd :=
  (.seq
   (.seq
    (.new (some 3) 28 (.var 1) [])
   (.set 2 (.const (.slice none 0 0))))
  (.seq
   (.seq
    (.call (some 4) 47 [(.ld (some 5) (.var 3))] [])
   (.block 0
     (.seq
      (.seq
       (.set 5 (.bin .eql (.var 4) (.const (.int .i64 0))))
      (.cond (.var 5)
        .skip
        (.seq
         (.set 5 (.bin .eql (.var 4) (.const (.int .i64 5))))
        (.cond (.var 5)
          .skip
          (.set 5 (.bin .eql (.var 4) (.const (.int .i64 10))))))))
     (.cond (.var 5)
       (.seq
        (.set 2 (.const (.slice none 0 0)))
       .ret)
       (.seq
        (.set 6 (.bin .eql (.var 4) (.const (.int .i64 3))))
       (.cond (.var 6)
         (.seq
          (.seq
           (.call (some 7) 54 [(.var 0), (.ld (some 5) (.var 3))] [])
          (.seq
           (.row (some 8) 3 1 (.upd 0 1 (.const (.agg #[(.int .i64 0)])) (.var 7)) [])
          (.set 2 (.var 8))))
         .ret)
         (.seq
          (.set 9 (.bin .eql (.var 4) (.const (.int .i64 2))))
         (.cond (.var 9)
           (.seq
            (.seq
             (.chk [(.bin .add (.var 0) (.const (.int .i64 1)))])
            (.seq
             (.call (some 10) 54 [(.var 0), (.ld (some 5) (.var 3))] [])
            (.seq
             (.row (some 11) 3 2 (.upd 1 1 (.upd 0 1 (.const (.agg #[(.int .i64 0), (.int .i64 0)])) (.bin .add (.var 0) (.const (.int .i64 1)))) (.var 10)) [])
            (.set 12 (.var 11)))))
           (.seq
            (.call none 27 [(.var 12)] [])
           (.seq
            (.seq
             (.call (some 13) 28 [(.var 12)] [])
            (.set 2 (.var 13)))
           .ret)))
           (.seq
            (.set 14 (.bin .eql (.var 4) (.const (.int .i64 9))))
           (.cond (.var 14)
             (.seq
              (.seq
               (.row (some 15) 3 1 (.upd 0 1 (.const (.agg #[(.int .i64 0)])) (.bin .add (.var 0) (.const (.int .i64 2)))) [])
              (.set 2 (.var 15)))
             .ret)
             .skip))))))))))
  (.seq
   (.seq
    (.row (some 16) 3 1 (.upd 0 1 (.const (.agg #[(.int .i64 0)])) (.bin .add (.var 0) (.const (.int .i64 1)))) [])
   (.set 2 (.var 16)))
  .ret)))
abbrev v_cfg_behind : List Nat := [0, 1, 4, 3, 7, 8, 12, 16, 17, 18, 24, 25, 5, 29, 30, 34, 37]
abbrev k_cfg_behind : List (List Nat) := []
abbrev r_cfg_behind : List Ex := [(.var 2)]
theorem ok_cfg_behind : compile Tryz.prog Tryz.f138 v_cfg_behind k_cfg_behind = some (c_cfg_behind, r_cfg_behind) := by kernel_rfl

/- tipstaff/cfg.Next -/
def c_cfg_Next : Cmd :=
  (.seq
   (.seq
    (.new (some 3) 29 (.var 0) [])
   (.set 2 (.const (.slice none 0 0))))
  (.seq
   (.cond (.pick (.bin .lss (.var 1) (.const (.int .i64 0))) (.const (.bool true)) (.bin .geq (.var 1) (.len false (.ld none (.var 3)))))
     (.seq
      (.set 2 (.const (.slice none 0 0)))
     .ret)
     .skip)
  (.seq
   (.seq
    (.call (some 4) 138 [(.var 1), (.ld (some 5) (.ixSl 5 (.ld none (.var 3)) (.var 1)))] [])
   (.seq
    (.chk [(.cap1 (.const (.func (.func 139) #[] #[])) (.var 3))])
   (.seq
    (.call (some 5) 137 [(.var 4), (.cap1 (.const (.func (.func 139) #[] #[])) (.var 3))] [])
   (.set 2 (.var 5)))))
  .ret)))
abbrev v_cfg_Next : List Nat := [0, 1, 4, 2, 18, 20]
abbrev k_cfg_Next : List (List Nat) := []
abbrev r_cfg_Next : List Ex := [(.var 2)]
theorem ok_cfg_Next : compile Tryz.prog Tryz.f116 v_cfg_Next k_cfg_Next = some (c_cfg_Next, r_cfg_Next) := by kernel_rfl

/- tipstaff/cfg.Next$1 -/
def c_cfg_Next_1 : Cmd :=
  (.seq
   (.set 2 (.const (.bool false)))
  (.seq
   (.set 2 (.pick (.bin .lss (.var 0) (.const (.int .i64 0))) (.const (.bool true)) (.bin .geq (.var 0) (.len false (.ld none (.var 1))))))
  .ret))
abbrev v_cfg_Next_1 : List Nat := [0, 1, 3]
abbrev k_cfg_Next_1 : List (List Nat) := []
abbrev r_cfg_Next_1 : List Ex := [(.var 2)]
theorem ok_cfg_Next_1 : compile Tryz.prog Tryz.f139 v_cfg_Next_1 k_cfg_Next_1 = some (c_cfg_Next_1, r_cfg_Next_1) := by kernel_rfl

/- slices.DeleteFunc[[]int,int] -/
def c_cf_DeleteFunc : Cmd :=
  (.seq
   (.set 2 (.const (.slice none 0 0)))
  (.seq
   (.seq
    (.call (some 3) 158 [(.var 0), (.var 1)] [])
   (.set 4 (.var 3)))
  (.seq
   (.cond (.bin .eql (.var 4) (.const (.int .i64 (-1))))
     (.seq
      (.set 2 (.var 0))
     .ret)
     .skip)
  (.seq
   (.seq
    (.set 5 (.bin .add (.var 4) (.const (.int .i64 1))))
   (.block 0
     (.loop [0, 1, 4, 5]
       (.seq
        (.cond (.bin .lss (.var 5) (.len false (.var 0)))
          .skip
          (.exit 0))
       (.seq
        (.block 1
          (.seq
           (.set 6 (.ld none (.ixSl 1 (.var 0) (.var 5))))
          (.seq
           (.dyn (some 7) (.var 1) [(.var 6)] [])
          (.cond (.un .not (.var 7))
            (.seq
             (.store 1 (.ixSl 1 (.var 0) (.var 4)) (.var 6) [])
            (.set 4 (.bin .add (.var 4) (.const (.int .i64 1)))))
            .skip))))
       (.set 5 (.bin .add (.var 5) (.const (.int .i64 1)))))))))
  (.seq
   (.bi none .clear [26] 0 [(.slSl 1 (.var 0) (.var 4) (.len false (.var 0)))] [])
  (.seq
   (.set 2 (.slSl 1 (.var 0) (.const (.int .i64 0)) (.var 4)))
  .ret))))))
abbrev v_cf_DeleteFunc : List Nat := [0, 1, 4, 10, 5, 6, 7, 28]
abbrev k_cf_DeleteFunc : List (List Nat) := [[0, 1, 4, 5]]
abbrev r_cf_DeleteFunc : List Ex := [(.var 2)]
theorem ok_cf_DeleteFunc : compile Tryz.prog Tryz.f137 v_cf_DeleteFunc k_cf_DeleteFunc = some (c_cf_DeleteFunc, r_cf_DeleteFunc) := by kernel_rfl

/- slices.IndexFunc[[]int,int] -/
def c_cf_IndexFunc : Cmd :=
  (.seq
   (.set 2 (.const (.int .i64 0)))
  (.seq
   (.seq
    (.seq
     (.set 4 (.len false (.var 0)))
    (.set 3 (.const (.int .i64 0))))
   (.block 0
     (.loop [0, 1, 3, 4]
       (.seq
        (.cond (.bin .lss (.var 3) (.var 4))
          .skip
          (.exit 0))
       (.seq
        (.block 1
          (.seq
           (.set 5 (.var 3))
          (.seq
           (.dyn (some 6) (.var 1) [(.ld none (.ixSl 1 (.var 0) (.var 5)))] [])
          (.cond (.var 6)
            (.seq
             (.set 2 (.var 5))
            .ret)
            .skip))))
       (.set 3 (.bin .add (.var 3) (.const (.int .i64 1)))))))))
  (.seq
   (.set 2 (.const (.int .i64 (-1))))
  .ret)))
abbrev v_cf_IndexFunc : List Nat := [0, 1, 4, 8, 7, 5, 16]
abbrev k_cf_IndexFunc : List (List Nat) := [[0, 1, 3, 4]]
abbrev r_cf_IndexFunc : List Ex := [(.var 2)]
theorem ok_cf_IndexFunc : compile Tryz.prog Tryz.f158 v_cf_IndexFunc k_cf_IndexFunc = some (c_cf_IndexFunc, r_cf_IndexFunc) := by kernel_rfl

/- (*tipstaff/cfg.walk).visit -/
def c_cfg_walk_visit : Cmd :=
  (.seq
   (.store 1 (.ixSl 1 (.ld none (.offp 1 (.nn (.var 0)))) (.var 1)) (.const (.int .i64 1)) [])
  (.seq
   (.seq
    (.seq
     (.call (some 2) 116 [(.ld none (.offp 0 (.nn (.var 0)))), (.var 1)] [])
    (.seq
     (.set 4 (.len false (.var 2)))
    (.set 3 (.const (.int .i64 0)))))
   (.block 0
     (.loop [0, 1, 2, 3, 4]
       (.seq
        (.cond (.bin .lss (.var 3) (.var 4))
          .skip
          (.exit 0))
       (.seq
        (.block 1
          (.seq
           (.set 5 (.ld none (.ixSl 1 (.var 2) (.var 3))))
          (.seq
           (.set 6 (.ld none (.ixSl 1 (.ld none (.offp 1 (.nn (.var 0)))) (.var 5))))
          (.block 2
            (.seq
             (.set 7 (.bin .eql (.var 6) (.const (.int .i64 1))))
            (.cond (.var 7)
              (.store 1 (.offp 2 (.nn (.var 0))) (.const (.bool true)) [])
              (.seq
               (.set 8 (.bin .eql (.var 6) (.const (.int .i64 0))))
              (.cond (.var 8)
                (.call none 88 [(.var 0), (.var 5)] [])
                .skip))))))))
       (.set 3 (.bin .add (.var 3) (.const (.int .i64 1)))))))))
  (.store 1 (.ixSl 1 (.ld none (.offp 1 (.nn (.var 0)))) (.var 1)) (.const (.int .i64 2)) [])))
abbrev v_cfg_walk_visit : List Nat := [0, 1, 17, 19, 18, 5, 29, 30, 35]
abbrev k_cfg_walk_visit : List (List Nat) := [[0, 1, 2, 3, 4]]
abbrev r_cfg_walk_visit : List Ex := []
theorem ok_cfg_walk_visit : compile Tryz.prog Tryz.f88 v_cfg_walk_visit k_cfg_walk_visit = some (c_cfg_walk_visit, r_cfg_walk_visit) := by kernel_rfl

/- tipstaff/cfg.walked -/
def c_cfg_walked : Cmd :=
  (.seq
   (.set 1 (.const (.pointer none)))
  (.seq
   (.seq
    (.sem (some 2) (.mk 26) [(.len false (.var 0)), (.len false (.var 0))] [])
   (.seq
    (.chk [(.upd 1 1 (.upd 0 1 (.const (.agg #[(.slice none 0 0), (.slice none 0 0), (.bool false)])) (.var 0)) (.var 2))])
   (.seq
    (.new (some 3) 105 (.upd 1 1 (.upd 0 1 (.const (.agg #[(.slice none 0 0), (.slice none 0 0), (.bool false)])) (.var 0)) (.var 2)) [])
   (.set 4 (.var 3)))))
  (.seq
   (.cond (.bin .gtr (.len false (.var 0)) (.const (.int .i64 0)))
     (.call none 88 [(.var 4), (.const (.int .i64 0))] [])
     .skip)
  (.seq
   (.set 1 (.var 4))
  .ret))))
abbrev v_cfg_walked : List Nat := [0, 2, 7, 9, 3]
abbrev k_cfg_walked : List (List Nat) := []
abbrev r_cfg_walked : List Ex := [(.var 1)]
theorem ok_cfg_walked : compile Tryz.prog Tryz.f46 v_cfg_walked k_cfg_walked = some (c_cfg_walked, r_cfg_walked) := by kernel_rfl

/- tipstaff/cfg.Reach -/
def c_cfg_Reach : Cmd :=
  (.seq
   (.set 1 (.const (.slice none 0 0)))
  (.seq
   (.seq
    (.call (some 2) 46 [(.var 0)] [])
   (.set 3 (.var 2)))
  (.seq
   (.seq
    (.sem (some 4) (.mk 37) [(.len false (.var 0)), (.len false (.var 0))] [])
   (.set 5 (.var 4)))
  (.seq
   (.seq
    (.seq
     (.set 8 (.ld none (.offp 1 (.nn (.var 3)))))
    (.seq
     (.set 7 (.len false (.var 8)))
    (.set 6 (.const (.int .i64 0)))))
   (.block 0
     (.loop [0, 5, 6, 7, 8]
       (.seq
        (.cond (.bin .lss (.var 6) (.var 7))
          .skip
          (.exit 0))
       (.seq
        (.block 1
          (.seq
           (.seq
            (.chk [(.ld none (.ixSl 1 (.var 8) (.var 6)))])
           (.seq
            (.set 9 (.var 6))
           (.set 10 (.ld none (.ixSl 1 (.var 8) (.var 6))))))
          (.seq
           (.store 1 (.ixSl 1 (.var 5) (.var 9)) (.bin .eql (.var 10) (.const (.int .i64 2))) [])
          (.seq
           (.seq
            (.chk [(.pick (.bin .gtr (.var 9) (.const (.int .i64 0))) (.ld (some 5) (.ixSl 5 (.var 0) (.var 9))) (.const (.bool false)))])
           (.seq
            (.cond (.pick (.bin .gtr (.var 9) (.const (.int .i64 0))) (.const (.bool true)) (.const (.bool false)))
              (.call (some 11) 47 [(.ld (some 5) (.ixSl 5 (.var 0) (.var 9)))] [])
              (.clr [11]))
           (.seq
            (.chk [(.pick (.pick (.bin .gtr (.var 9) (.const (.int .i64 0))) (.bin .eql (.var 11) (.const (.int .i64 10))) (.const (.bool false))) (.ld (some 5) (.ixSl 5 (.var 0) (.bin .sub (.var 9) (.const (.int .i64 1))))) (.const (.bool false)))])
           (.cond (.pick (.pick (.bin .gtr (.var 9) (.const (.int .i64 0))) (.bin .eql (.var 11) (.const (.int .i64 10))) (.const (.bool false))) (.const (.bool true)) (.const (.bool false)))
             (.call (some 12) 47 [(.ld (some 5) (.ixSl 5 (.var 0) (.bin .sub (.var 9) (.const (.int .i64 1)))))] [])
             (.clr [12])))))
          (.cond (.pick (.pick (.bin .gtr (.var 9) (.const (.int .i64 0))) (.bin .eql (.var 11) (.const (.int .i64 10))) (.const (.bool false))) (.bin .eql (.var 12) (.const (.int .i64 9))) (.const (.bool false)))
            (.store 1 (.ixSl 1 (.var 5) (.var 9)) (.pick (.ld none (.ixSl 1 (.var 5) (.var 9))) (.const (.bool true)) (.ld none (.ixSl 1 (.var 5) (.bin .sub (.var 9) (.const (.int .i64 1)))))) [])
            .skip)))))
       (.set 6 (.bin .add (.var 6) (.const (.int .i64 1)))))))))
  (.seq
   (.set 1 (.var 5))
  .ret)))))
abbrev v_cfg_Reach : List Nat := [0, 2, 8, 3, 11, 4, 17, 16, 15, 5, 6, 34, 43]
abbrev k_cfg_Reach : List (List Nat) := [[0, 5, 6, 7, 8]]
abbrev r_cfg_Reach : List Ex := [(.var 1)]
theorem ok_cfg_Reach : compile Tryz.prog Tryz.f31 v_cfg_Reach k_cfg_Reach = some (c_cfg_Reach, r_cfg_Reach) := by kernel_rfl

/- tipstaff/cfg.Loops -/
def c_cfg_Loops : Cmd :=
  (.seq
   (.set 1 (.const (.bool false)))
  (.seq
   (.seq
    (.call (some 2) 46 [(.var 0)] [])
   (.set 1 (.ld none (.offp 2 (.nn (.var 2))))))
  .ret))
abbrev v_cfg_Loops : List Nat := [0, 2, 4]
abbrev k_cfg_Loops : List (List Nat) := []
abbrev r_cfg_Loops : List Ex := [(.var 1)]
theorem ok_cfg_Loops : compile Tryz.prog Tryz.f32 v_cfg_Loops k_cfg_Loops = some (c_cfg_Loops, r_cfg_Loops) := by kernel_rfl

/- slices.Index[[]bool,bool] -/
def c_cf_Index : Cmd :=
  (.seq
   (.set 2 (.const (.int .i64 0)))
  (.seq
   (.seq
    (.seq
     (.set 4 (.len false (.var 0)))
    (.set 3 (.const (.int .i64 0))))
   (.block 0
     (.loop [0, 1, 3, 4]
       (.seq
        (.cond (.bin .lss (.var 3) (.var 4))
          .skip
          (.exit 0))
       (.seq
        (.block 1
          (.seq
           (.set 5 (.var 3))
          (.cond (.eqx false .bool (.var 1) (.ld none (.ixSl 1 (.var 0) (.var 5))))
            (.seq
             (.set 2 (.var 5))
            .ret)
            .skip)))
       (.set 3 (.bin .add (.var 3) (.const (.int .i64 1)))))))))
  (.seq
   (.set 2 (.const (.int .i64 (-1))))
  .ret)))
abbrev v_cf_Index : List Nat := [0, 1, 4, 8, 7, 5]
abbrev k_cf_Index : List (List Nat) := [[0, 1, 3, 4]]
abbrev r_cf_Index : List Ex := [(.var 2)]
theorem ok_cf_Index : compile Tryz.prog Tryz.f30 v_cf_Index k_cf_Index = some (c_cf_Index, r_cf_Index) := by kernel_rfl

/- tipstaff/cfg.Check -/
def c_cfg_Check : Cmd :=
  (.seq
   (.seq
    (.set 2 (.const (.int .i64 0)))
   (.set 3 (.const (.int .i64 0))))
  (.seq
   (.seq
    (.seq
     (.call (some 4) 29 [(.var 0)] [])
    (.seq
     (.chk [(.proj 1 (.var 4))])
    (.seq
     (.set 5 (.proj 0 (.var 4)))
    (.set 6 (.proj 1 (.var 4))))))
   (.cond (.bin .neq (.var 6) (.const (.int .i64 0)))
     (.seq
      (.seq
       (.chk [(.var 6)])
      (.seq
       (.set 2 (.var 5))
      (.set 3 (.var 6))))
     .ret)
     .skip))
  (.seq
   (.seq
    (.seq
     (.call (some 7) 31 [(.var 0)] [])
    (.seq
     (.call (some 8) 30 [(.var 7), (.const (.bool false))] [])
    (.set 9 (.var 8))))
   (.cond (.bin .geq (.var 9) (.const (.int .i64 0)))
     (.seq
      (.seq
       (.set 2 (.var 9))
      (.set 3 (.const (.int .i64 22))))
     .ret)
     .skip))
  (.seq
   (.seq
    (.seq
     (.chk [(.pick (.un .not (.var 1)) (.var 0) (.const (.bool false)))])
    (.cond (.pick (.un .not (.var 1)) (.const (.bool true)) (.const (.bool false)))
      (.call (some 10) 32 [(.var 0)] [])
      (.clr [10])))
   (.cond (.pick (.un .not (.var 1)) (.var 10) (.const (.bool false)))
     (.seq
      (.seq
       (.set 2 (.const (.int .i64 0)))
      (.set 3 (.const (.int .i64 22))))
     .ret)
     .skip))
  (.seq
   (.seq
    (.set 2 (.const (.int .i64 0)))
   (.set 3 (.const (.int .i64 0))))
  .ret)))))
abbrev v_cfg_Check : List Nat := [0, 1, 4, 5, 11, 6, 7, 19, 20, 8, 28]
abbrev k_cfg_Check : List (List Nat) := []
abbrev r_cfg_Check : List Ex := [(.var 2), (.var 3)]
theorem ok_cfg_Check : compile Tryz.prog Tryz.f15 v_cfg_Check k_cfg_Check = some (c_cfg_Check, r_cfg_Check) := by kernel_rfl
end Go.Proofs.YtkgpmjjleemdlaaGreat
