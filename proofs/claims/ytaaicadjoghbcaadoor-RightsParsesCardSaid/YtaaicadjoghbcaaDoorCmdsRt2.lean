/- Commands of functions, and that they are what the code comes to. -/
import Derived.Test.YtaaicadjoghbcaaDoorCmdsRt
import Derived.Test.YtaaicadjoghbcaaDoorRows
namespace Go.Proofs.YtaaicadjoghbcaaDoor
open Go.Eng
/- tipstaff/tipstafflaw11.RightsTexts -/
def c_tipstafflaw11_RightsTexts : Cmd :=
  (.seq
   (.seq
    (.new (some 2) 24 (.var 0) [])
   (.set 1 (.const (.bool false))))
  (.seq
   (.seq
    (.call (some 3) 6 [(.ld (some 6) (.var 2))] [])
   (.seq
    (.call (some 4) 5 [(.var 3)] [])
   (.set 5 (.var 4))))
  (.seq
   (.seq
    (.call (some 6) 7 [(.var 5)] [])
   (.seq
    (.chk [(.proj 1 (.var 6)), (.proj 0 (.var 6))])
   (.seq
    (.new (some 7) 27 (.const (.agg #[(.int .u16 0), (.int .u16 0), (.int .u16 0), (.int .u16 0), (.bool false), (.bool false)])) [])
   (.seq
    (.store 6 (.var 7) (.proj 0 (.var 6)) [])
   (.set 8 (.proj 1 (.var 6)))))))
  (.seq
   (.seq
    .draw
   (.seq
    (.call (some 9) 8 [] [])
   (.seq
    (.chk [(.pick (.var 9) (.ld (some 6) (.var 2)) (.const (.bool false))), (.pick (.var 9) (.var 5) (.const (.bool false)))])
   (.seq
    (.cond (.pick (.var 9) (.const (.bool true)) (.const (.bool false)))
      (.call (some 10) 9 [(.ld (some 6) (.var 2))] [])
      (.clr [10]))
   (.seq
    (.chk [(.pick (.pick (.pick (.var 9) (.bin .eql (.var 5) (.var 10)) (.const (.bool false))) (.bin .eql (.var 8) (.const (.int .i64 0))) (.const (.bool false))) (.ld (some 6) (.var 7)) (.const (.bool false)))])
   (.seq
    (.cond (.pick (.pick (.pick (.var 9) (.bin .eql (.var 5) (.var 10)) (.const (.bool false))) (.bin .eql (.var 8) (.const (.int .i64 0))) (.const (.bool false))) (.const (.bool true)) (.const (.bool false)))
      (.set 12 (.ld (some 6) (.var 2)))
      (.clr [12]))
   (.seq
    (.cond (.pick (.pick (.pick (.var 9) (.bin .eql (.var 5) (.var 10)) (.const (.bool false))) (.bin .eql (.var 8) (.const (.int .i64 0))) (.const (.bool false))) (.const (.bool true)) (.const (.bool false)))
      (.call (some 11) 10 [(.ld (some 6) (.var 7))] [(.ld (some 6) (.var 2))])
      (.clr [11]))
   (.set 1 (.pick (.pick (.pick (.var 9) (.bin .eql (.var 5) (.var 10)) (.const (.bool false))) (.bin .eql (.var 8) (.const (.int .i64 0))) (.const (.bool false))) (.eqx false (.cons 0 none .int (.cons 1 none .int (.cons 2 none .int (.cons 3 none .int (.cons 4 none .bool (.cons 5 none .bool .nil)))))) (.var 11) (.var 12)) (.const (.bool false)))))))))))
  .ret))))
abbrev v_tipstafflaw11_RightsTexts : List Nat := [0, 2, 1, 7, 8, 3, 11, 4, 5, 14, 18, 27, 28]
abbrev k_tipstafflaw11_RightsTexts : List (List Nat) := []
abbrev r_tipstafflaw11_RightsTexts : List Ex := [(.var 1)]
theorem ok_tipstafflaw11_RightsTexts : compile Tryd.prog Tryd.f3 v_tipstafflaw11_RightsTexts k_tipstafflaw11_RightsTexts = some (c_tipstafflaw11_RightsTexts, r_tipstafflaw11_RightsTexts) := by kernel_rfl

/- tipstaff/tipstafflaw11.RightsParses -/
def c_tipstafflaw11_RightsParses : Cmd :=
  (.seq
   (.set 1 (.const (.bool false)))
  (.seq
   (.set 0 (.slStr (.var 0) (.const (.int .i64 0)) (.mn (.len true (.var 0)) (.const (.int .i64 60)))))
  (.seq
   (.seq
    (.call (some 2) 7 [(.var 0)] [])
   (.seq
    (.chk [(.proj 1 (.var 2)), (.proj 0 (.var 2))])
   (.seq
    (.new (some 3) 27 (.const (.agg #[(.int .u16 0), (.int .u16 0), (.int .u16 0), (.int .u16 0), (.bool false), (.bool false)])) [])
   (.seq
    (.store 6 (.var 3) (.proj 0 (.var 2)) [])
   (.set 4 (.proj 1 (.var 2)))))))
  (.seq
   (.seq
    (.call (some 5) 11 [(.var 0)] [])
   (.seq
    (.chk [(.proj 1 (.var 5)), (.proj 0 (.var 5))])
   (.seq
    (.new (some 6) 24 (.const (.agg #[(.int .u16 0), (.int .u16 0), (.int .u16 0), (.int .u16 0), (.bool false), (.bool false)])) [])
   (.seq
    (.store 6 (.var 6) (.proj 0 (.var 5)) [])
   (.set 7 (.proj 1 (.var 5)))))))
  (.seq
   (.seq
    (.seq
     .draw
    (.seq
     (.call (some 8) 8 [] [])
    (.seq
     (.set 11 (.pick (.un .not (.var 8)) (.const (.bool true)) (.eqx true .bool (.bin .eql (.var 4) (.const (.int .i64 0))) (.var 7))))
    (.seq
     (.chk [(.pick (.var 11) (.const (.bool false)) (.ld (some 6) (.var 3)))])
    (.seq
     (.cond (.pick (.var 11) (.const (.bool false)) (.const (.bool true)))
       (.set 10 (.ld (some 6) (.var 6)))
       (.clr [10]))
    (.cond (.pick (.var 11) (.const (.bool false)) (.const (.bool true)))
      (.call (some 9) 10 [(.ld (some 6) (.var 3))] [(.ld (some 6) (.var 6))])
      (.clr [9])))))))
   (.cond (.pick (.var 11) (.const (.bool true)) (.eqx true (.cons 0 none .int (.cons 1 none .int (.cons 2 none .int (.cons 3 none .int (.cons 4 none .bool (.cons 5 none .bool .nil)))))) (.var 9) (.var 10)))
     (.seq
      (.set 1 (.const (.bool false)))
     .ret)
     .skip))
  (.seq
   (.seq
    (.chk [(.pick (.bin .eql (.var 4) (.const (.int .i64 22))) (.const (.bool false)) (.pick (.bin .eql (.var 4) (.const (.int .i64 0))) (.ld (some 6) (.var 3)) (.const (.bool false))))])
   (.seq
    (.cond (.pick (.bin .eql (.var 4) (.const (.int .i64 22))) (.const (.bool false)) (.pick (.bin .eql (.var 4) (.const (.int .i64 0))) (.const (.bool true)) (.const (.bool false))))
      (.call (some 12) 5 [(.ld (some 6) (.var 3))] [])
      (.clr [12]))
   (.set 1 (.pick (.bin .eql (.var 4) (.const (.int .i64 22))) (.const (.bool true)) (.pick (.bin .eql (.var 4) (.const (.int .i64 0))) (.bin .eql (.var 12) (.var 0)) (.const (.bool false)))))))
  .ret))))))
abbrev v_tipstafflaw11_RightsParses : List Nat := [0, 2, 14, 3, 4, 19, 5, 6, 22, 32, 33, 30, 43]
abbrev k_tipstafflaw11_RightsParses : List (List Nat) := []
abbrev r_tipstafflaw11_RightsParses : List Ex := [(.var 1)]
theorem ok_tipstafflaw11_RightsParses : compile Tryd.prog Tryd.f4 v_tipstafflaw11_RightsParses k_tipstafflaw11_RightsParses = some (c_tipstafflaw11_RightsParses, r_tipstafflaw11_RightsParses) := by kernel_rfl

/- tipstaff/rights.Parse -/
def c_rights_Parse : Cmd :=
  (.seq
   (.seq
    (.new (some 1) 27 (.const (.agg #[(.int .u16 0), (.int .u16 0), (.int .u16 0), (.int .u16 0), (.bool false), (.bool false)])) [])
   (.set 2 (.const (.int .i64 0))))
  (.seq
   (.new (some 3) 45 (.const (.agg (Array.replicate 4 (.int .u16 0)))) [])
  (.seq
   (.seq
    (.call (some 4) 15 [(.var 0), (.const (.string ⟨#[32]⟩))] [])
   (.set 5 (.var 4)))
  (.seq
   (.cond (.bin .lss (.len false (.var 5)) (.const (.int .i64 4)))
     (.seq
      (.seq
       (.store 6 (.var 1) (.const (.agg #[(.int .u16 0), (.int .u16 0), (.int .u16 0), (.int .u16 0), (.bool false), (.bool false)])) [])
      (.set 2 (.const (.int .i64 22))))
     .ret)
     .skip)
  (.seq
   (.seq
    (.set 6 (.const (.int .i64 0)))
   (.block 0
     (.loop [0, 1, 3, 5, 6]
       (.seq
        (.cond (.bin .lss (.var 6) (.const (.int .i64 4)))
          .skip
          (.exit 0))
       (.seq
        (.block 1
          (.seq
           (.set 7 (.var 6))
          (.seq
           (.seq
            (.chk [(.bin .eql (.ld none (.ixSl 1 (.var 5) (.var 7))) (.const (.string ⟨#[]⟩)))])
           (.cond (.bin .eql (.ld none (.ixSl 1 (.var 5) (.var 7))) (.const (.string ⟨#[]⟩)))
             (.seq
              (.seq
               (.store 6 (.var 1) (.const (.agg #[(.int .u16 0), (.int .u16 0), (.int .u16 0), (.int .u16 0), (.bool false), (.bool false)])) [])
              (.set 2 (.const (.int .i64 22))))
             .ret)
             .skip))
          (.seq
           (.seq
            (.call (some 8) 16 [(.slStr (.ld none (.ixSl 1 (.var 5) (.var 7))) (.const (.int .i64 1)) (.len true (.ld none (.ixSl 1 (.var 5) (.var 7))))), (.const (.int .i64 16)), (.const (.int .i64 16))] [])
           (.seq
            (.chk [(.proj 1 (.var 8))])
           (.seq
            (.set 9 (.proj 0 (.var 8)))
           (.set 10 (.proj 1 (.var 8))))))
          (.seq
           (.cond (.isnil 3 true (.var 10))
             (.seq
              (.seq
               (.store 6 (.var 1) (.const (.agg #[(.int .u16 0), (.int .u16 0), (.int .u16 0), (.int .u16 0), (.bool false), (.bool false)])) [])
              (.set 2 (.const (.int .i64 22))))
             .ret)
             .skip)
          (.store 1 (.ixArr 4 1 (.var 3) (.var 7)) (.conv .u16 (.var 9)) []))))))
       (.set 6 (.bin .add (.var 6) (.const (.int .i64 1)))))))))
  (.seq
   (.set 11 (.slSl 1 (.var 5) (.const (.int .i64 4)) (.len false (.var 5))))
  (.seq
   (.seq
    .draw
   (.seq
    (.set 14 (.ld none (.ixArr 4 1 (.var 3) (.const (.int .i64 0)))))
   (.seq
    (.set 15 (.ld none (.ixArr 4 1 (.var 3) (.const (.int .i64 1)))))
   (.seq
    (.set 16 (.ld none (.ixArr 4 1 (.var 3) (.const (.int .i64 2)))))
   (.seq
    (.set 17 (.ld none (.ixArr 4 1 (.var 3) (.const (.int .i64 3)))))
   (.alt
    (.seq
     (.call (some 12) 17 [(.var 11), (.const (.string ⟨#[112, 114, 105, 118, 105, 108, 101, 103, 101, 100]⟩))] [(.ld none (.ixArr 4 1 (.var 3) (.const (.int .i64 3)))), (.ld none (.ixArr 4 1 (.var 3) (.const (.int .i64 2)))), (.ld none (.ixArr 4 1 (.var 3) (.const (.int .i64 1)))), (.ld none (.ixArr 4 1 (.var 3) (.const (.int .i64 0))))])
    (.alt
     (.seq
      (.call (some 13) 17 [(.var 11), (.const (.string ⟨#[115, 105, 103, 110, 101, 100]⟩))] [(.ld none (.ixArr 4 1 (.var 3) (.const (.int .i64 3)))), (.ld none (.ixArr 4 1 (.var 3) (.const (.int .i64 2)))), (.ld none (.ixArr 4 1 (.var 3) (.const (.int .i64 1)))), (.ld none (.ixArr 4 1 (.var 3) (.const (.int .i64 0))))])
     (.seq
      (.set 19 (.upd 5 1 (.upd 4 1 (.upd 3 1 (.upd 2 1 (.upd 1 1 (.upd 0 1 (.const (.agg #[(.int .u16 0), (.int .u16 0), (.int .u16 0), (.int .u16 0), (.bool false), (.bool false)])) (.var 14)) (.var 15)) (.var 16)) (.var 17)) (.var 12)) (.var 13)))
     (.seq
      (.new (some 18) 27 (.const (.agg #[(.int .u16 0), (.int .u16 0), (.int .u16 0), (.int .u16 0), (.bool false), (.bool false)])) [(.ld none (.ixArr 4 1 (.var 3) (.const (.int .i64 3)))), (.ld none (.ixArr 4 1 (.var 3) (.const (.int .i64 2)))), (.ld none (.ixArr 4 1 (.var 3) (.const (.int .i64 1)))), (.ld none (.ixArr 4 1 (.var 3) (.const (.int .i64 0))))])
     (.store 6 (.var 18) (.var 19) []))))
    (.seq
     (.new (some 18) 27 (.const (.agg #[(.int .u16 0), (.int .u16 0), (.int .u16 0), (.int .u16 0), (.bool false), (.bool false)])) [(.ld none (.ixArr 4 1 (.var 3) (.const (.int .i64 3)))), (.ld none (.ixArr 4 1 (.var 3) (.const (.int .i64 2)))), (.ld none (.ixArr 4 1 (.var 3) (.const (.int .i64 1)))), (.ld none (.ixArr 4 1 (.var 3) (.const (.int .i64 0))))])
    (.seq
     (.call (some 13) 17 [(.var 11), (.const (.string ⟨#[115, 105, 103, 110, 101, 100]⟩))] [(.ld none (.ixArr 4 1 (.var 3) (.const (.int .i64 3)))), (.ld none (.ixArr 4 1 (.var 3) (.const (.int .i64 2)))), (.ld none (.ixArr 4 1 (.var 3) (.const (.int .i64 1)))), (.ld none (.ixArr 4 1 (.var 3) (.const (.int .i64 0))))])
    (.seq
     (.set 19 (.upd 5 1 (.upd 4 1 (.upd 3 1 (.upd 2 1 (.upd 1 1 (.upd 0 1 (.const (.agg #[(.int .u16 0), (.int .u16 0), (.int .u16 0), (.int .u16 0), (.bool false), (.bool false)])) (.var 14)) (.var 15)) (.var 16)) (.var 17)) (.var 12)) (.var 13)))
    (.store 6 (.var 18) (.var 19) []))))))
   (.seq
    (.chk [(.var 11)])
   (.seq
    (.new (some 18) 27 (.const (.agg #[(.int .u16 0), (.int .u16 0), (.int .u16 0), (.int .u16 0), (.bool false), (.bool false)])) [(.ld none (.ixArr 4 1 (.var 3) (.const (.int .i64 3)))), (.ld none (.ixArr 4 1 (.var 3) (.const (.int .i64 2)))), (.ld none (.ixArr 4 1 (.var 3) (.const (.int .i64 1)))), (.ld none (.ixArr 4 1 (.var 3) (.const (.int .i64 0))))])
   (.seq
    (.call (some 12) 17 [(.var 11), (.const (.string ⟨#[112, 114, 105, 118, 105, 108, 101, 103, 101, 100]⟩))] [(.ld none (.ixArr 4 1 (.var 3) (.const (.int .i64 3)))), (.ld none (.ixArr 4 1 (.var 3) (.const (.int .i64 2)))), (.ld none (.ixArr 4 1 (.var 3) (.const (.int .i64 1)))), (.ld none (.ixArr 4 1 (.var 3) (.const (.int .i64 0))))])
   (.seq
    (.call (some 13) 17 [(.var 11), (.const (.string ⟨#[115, 105, 103, 110, 101, 100]⟩))] [(.ld none (.ixArr 4 1 (.var 3) (.const (.int .i64 3)))), (.ld none (.ixArr 4 1 (.var 3) (.const (.int .i64 2)))), (.ld none (.ixArr 4 1 (.var 3) (.const (.int .i64 1)))), (.ld none (.ixArr 4 1 (.var 3) (.const (.int .i64 0))))])
   (.seq
    (.set 19 (.upd 5 1 (.upd 4 1 (.upd 3 1 (.upd 2 1 (.upd 1 1 (.upd 0 1 (.const (.agg #[(.int .u16 0), (.int .u16 0), (.int .u16 0), (.int .u16 0), (.bool false), (.bool false)])) (.var 14)) (.var 15)) (.var 16)) (.var 17)) (.var 12)) (.var 13)))
   (.store 6 (.var 18) (.var 19) []))))))))))))
  (.seq
   (.seq
    (.call (some 20) 5 [(.ld (some 6) (.var 18))] [])
   (.cond (.bin .neq (.var 20) (.var 0))
     (.seq
      (.seq
       (.store 6 (.var 1) (.const (.agg #[(.int .u16 0), (.int .u16 0), (.int .u16 0), (.int .u16 0), (.bool false), (.bool false)])) [])
      (.set 2 (.const (.int .i64 22))))
     .ret)
     .skip))
  (.seq
   (.seq
    (.store 6 (.var 1) (.ld (some 6) (.var 18)) [])
   (.set 2 (.const (.int .i64 0))))
  .ret)))))))))
abbrev v_rights_Parse : List Nat := [0, 2, 3, 4, 12, 5, 17, 6, 32, 7, 8, 9, 54, 56, 46, 48, 50, 52, 10, 57, 59]
abbrev k_rights_Parse : List (List Nat) := [[0, 1, 3, 5, 6]]
abbrev r_rights_Parse : List Ex := [(.ld (some 6) (.var 1)), (.var 2)]
theorem ok_rights_Parse : compile Tryd.prog Tryd.f7 v_rights_Parse k_rights_Parse = some (c_rights_Parse, r_rights_Parse) := by kernel_rfl

/- tipstaff/tipstaffref11.Text -/
def c_tipstaffref11_Text : Cmd :=
  (.seq
   (.seq
    (.new (some 2) 24 (.var 0) [])
   (.set 1 (.const (.string ⟨#[]⟩))))
  (.seq
   (.seq
    .draw
   (.seq
    (.chk [(.ld none (.offp 0 (.var 2)))])
   (.seq
    (.set 4 (.ld none (.offp 1 (.var 2))))
   (.seq
    (.set 6 (.ld none (.offp 2 (.var 2))))
   (.seq
    (.set 8 (.ld none (.offp 3 (.var 2))))
   (.seq
    (.call (some 3) 21 [(.ld none (.offp 0 (.var 2)))] [(.ld none (.offp 3 (.var 2))), (.ld none (.offp 2 (.var 2))), (.ld none (.offp 1 (.var 2)))])
   (.seq
    (.chk [(.bin .add (.bin .add (.const (.string ⟨#[99]⟩)) (.var 3)) (.const (.string ⟨#[32, 112]⟩))), (.bin .add (.const (.string ⟨#[99]⟩)) (.var 3))])
   (.seq
    (.call (some 5) 21 [(.var 4)] [(.ld none (.offp 3 (.var 2))), (.ld none (.offp 2 (.var 2)))])
   (.seq
    (.chk [(.bin .add (.bin .add (.bin .add (.bin .add (.const (.string ⟨#[99]⟩)) (.var 3)) (.const (.string ⟨#[32, 112]⟩))) (.var 5)) (.const (.string ⟨#[32, 109]⟩))), (.bin .add (.bin .add (.bin .add (.const (.string ⟨#[99]⟩)) (.var 3)) (.const (.string ⟨#[32, 112]⟩))) (.var 5))])
   (.seq
    (.call (some 7) 21 [(.var 6)] [(.ld none (.offp 3 (.var 2)))])
   (.seq
    (.chk [(.bin .add (.bin .add (.bin .add (.bin .add (.bin .add (.bin .add (.const (.string ⟨#[99]⟩)) (.var 3)) (.const (.string ⟨#[32, 112]⟩))) (.var 5)) (.const (.string ⟨#[32, 109]⟩))) (.var 7)) (.const (.string ⟨#[32, 104]⟩))), (.bin .add (.bin .add (.bin .add (.bin .add (.bin .add (.const (.string ⟨#[99]⟩)) (.var 3)) (.const (.string ⟨#[32, 112]⟩))) (.var 5)) (.const (.string ⟨#[32, 109]⟩))) (.var 7))])
   (.seq
    (.call (some 9) 21 [(.var 8)] [])
   (.seq
    (.chk [(.bin .add (.bin .add (.bin .add (.bin .add (.bin .add (.bin .add (.bin .add (.const (.string ⟨#[99]⟩)) (.var 3)) (.const (.string ⟨#[32, 112]⟩))) (.var 5)) (.const (.string ⟨#[32, 109]⟩))) (.var 7)) (.const (.string ⟨#[32, 104]⟩))) (.var 9))])
   (.set 10 (.bin .add (.bin .add (.bin .add (.bin .add (.bin .add (.bin .add (.bin .add (.const (.string ⟨#[99]⟩)) (.var 3)) (.const (.string ⟨#[32, 112]⟩))) (.var 5)) (.const (.string ⟨#[32, 109]⟩))) (.var 7)) (.const (.string ⟨#[32, 104]⟩))) (.var 9))))))))))))))))
  (.seq
   (.cond (.ld none (.offp 4 (.var 2)))
     (.seq
      (.chk [(.bin .add (.var 10) (.const (.string ⟨#[32, 112, 114, 105, 118, 105, 108, 101, 103, 101, 100]⟩)))])
     (.set 10 (.bin .add (.var 10) (.const (.string ⟨#[32, 112, 114, 105, 118, 105, 108, 101, 103, 101, 100]⟩)))))
     .skip)
  (.seq
   (.cond (.ld none (.offp 5 (.var 2)))
     (.seq
      (.chk [(.bin .add (.var 10) (.const (.string ⟨#[32, 115, 105, 103, 110, 101, 100]⟩)))])
     (.set 10 (.bin .add (.var 10) (.const (.string ⟨#[32, 115, 105, 103, 110, 101, 100]⟩)))))
     .skip)
  (.seq
   (.set 1 (.var 10))
  .ret)))))
abbrev v_tipstaffref11_Text : List Nat := [0, 2, 1, 6, 10, 11, 15, 16, 20, 21, 3]
abbrev k_tipstaffref11_Text : List (List Nat) := []
abbrev r_tipstaffref11_Text : List Ex := [(.var 1)]
theorem ok_tipstaffref11_Text : compile Tryd.prog Tryd.f9 v_tipstaffref11_Text k_tipstaffref11_Text = some (c_tipstaffref11_Text, r_tipstaffref11_Text) := by kernel_rfl

/- tipstaff/tipstaffref11.Hex -/
def c_tipstaffref11_Hex : Cmd :=
  (.seq
   (.set 1 (.const (.string ⟨#[]⟩)))
  (.seq
   (.set 2 (.const (.string ⟨#[48, 49, 50, 51, 52, 53, 54, 55, 56, 57, 97, 98, 99, 100, 101, 102]⟩)))
  (.seq
   (.set 3 (.const (.string ⟨#[]⟩)))
  (.seq
   (.block 0
     (.loop [0, 2, 3]
       (.seq
        (.seq
         (.chk [(.pick (.bin .gtr (.var 0) (.const (.int .u16 0))) (.const (.bool true)) (.bin .eql (.var 3) (.const (.string ⟨#[]⟩)))), (.pick (.bin .gtr (.var 0) (.const (.int .u16 0))) (.const (.bool false)) (.bin .eql (.var 3) (.const (.string ⟨#[]⟩))))])
        (.cond (.pick (.bin .gtr (.var 0) (.const (.int .u16 0))) (.const (.bool true)) (.bin .eql (.var 3) (.const (.string ⟨#[]⟩))))
          .skip
          (.exit 0)))
       (.block 1
         (.seq
          (.set 3 (.bin .add (.slStr (.var 2) (.bin .rem (.var 0) (.const (.int .u16 16))) (.bin .add (.bin .rem (.var 0) (.const (.int .u16 16))) (.const (.int .u16 1)))) (.var 3)))
         (.set 0 (.bin .quo (.var 0) (.const (.int .u16 16)))))))))
  (.seq
   (.set 1 (.var 3))
  .ret)))))
abbrev v_tipstaffref11_Hex : List Nat := [0, 2, 3, 4]
abbrev k_tipstaffref11_Hex : List (List Nat) := [[0, 2, 3]]
abbrev r_tipstaffref11_Hex : List Ex := [(.var 1)]
theorem ok_tipstaffref11_Hex : compile Tryd.prog Tryd.f21 v_tipstaffref11_Hex k_tipstaffref11_Hex = some (c_tipstaffref11_Hex, r_tipstaffref11_Hex) := by kernel_rfl

/- tipstaff/tipstaffref11.Parse -/
def c_tipstaffref11_Parse : Cmd :=
  (.seq
   (.seq
    (.new (some 1) 24 (.const (.agg #[(.int .u16 0), (.int .u16 0), (.int .u16 0), (.int .u16 0), (.bool false), (.bool false)])) [])
   (.set 2 (.const (.bool false))))
  (.seq
   (.set 3 (.const (.slice none 0 0)))
  (.seq
   (.set 4 (.const (.string ⟨#[]⟩)))
  (.seq
   (.seq
    (.set 5 (.const (.int .i64 0)))
   (.block 0
     (.loop [0, 1, 3, 4, 5]
       (.seq
        (.cond (.bin .leq (.var 5) (.len true (.var 0)))
          .skip
          (.exit 0))
       (.seq
        (.block 1
          (.cond (.pick (.bin .eql (.var 5) (.len true (.var 0))) (.const (.bool true)) (.bin .eql (.idxStr (.var 0) (.var 5)) (.const (.int .u8 32))))
            (.seq
             (.seq
              (.chk [(.var 3)])
             (.seq
              (.row (some 6) 9 1 (.upd 0 1 (.const (.agg #[(.string ⟨#[]⟩)])) (.var 4)) [])
             (.seq
              (.bi (some 7) .append [39, 39] 39 [(.var 3), (.var 6)] [])
             (.set 3 (.var 7)))))
            (.set 4 (.const (.string ⟨#[]⟩))))
            (.set 4 (.bin .add (.var 4) (.slStr (.var 0) (.var 5) (.bin .add (.var 5) (.const (.int .i64 1))))))))
       (.set 5 (.bin .add (.var 5) (.const (.int .i64 1)))))))))
  (.seq
   (.new (some 8) 24 (.const (.agg #[(.int .u16 0), (.int .u16 0), (.int .u16 0), (.int .u16 0), (.bool false), (.bool false)])) [])
  (.seq
   (.cond (.pick (.bin .lss (.len false (.var 3)) (.const (.int .i64 4))) (.const (.bool true)) (.bin .gtr (.len false (.var 3)) (.const (.int .i64 6))))
     (.seq
      (.seq
       (.store 6 (.var 1) (.ld (some 6) (.var 8)) [])
      (.set 2 (.const (.bool false))))
     .ret)
     .skip)
  (.seq
   (.new (some 9) 45 (.const (.agg (Array.replicate 4 (.int .u16 0)))) [])
  (.seq
   (.seq
    (.set 10 (.const (.int .i64 0)))
   (.block 2
     (.loop [0, 1, 3, 8, 9, 10]
       (.seq
        (.cond (.bin .lss (.var 10) (.const (.int .i64 4)))
          .skip
          (.exit 2))
       (.seq
        (.block 3
          (.seq
           (.set 11 (.ld none (.ixSl 1 (.var 3) (.var 10))))
          (.seq
           (.cond (.pick (.bin .lss (.len true (.var 11)) (.const (.int .i64 2))) (.const (.bool true)) (.bin .gtr (.len true (.var 11)) (.const (.int .i64 5))))
             (.seq
              (.seq
               (.store 6 (.var 1) (.const (.agg #[(.int .u16 0), (.int .u16 0), (.int .u16 0), (.int .u16 0), (.bool false), (.bool false)])) [])
              (.set 2 (.const (.bool false))))
             .ret)
             .skip)
          (.seq
           (.set 12 (.const (.int .i64 1)))
          (.block 4
            (.loop [0, 1, 3, 8, 9, 10, 11, 12]
              (.seq
               (.cond (.bin .lss (.var 12) (.len true (.var 11)))
                 .skip
                 (.exit 4))
              (.seq
               (.block 5
                 (.seq
                  (.set 13 (.idxStr (.var 11) (.var 12)))
                 (.block 6
                   (.seq
                    (.set 14 (.pick (.bin .geq (.var 13) (.const (.int .u8 48))) (.bin .leq (.var 13) (.const (.int .u8 57))) (.const (.bool false))))
                   (.cond (.var 14)
                     (.store 1 (.ixArr 4 1 (.var 9) (.var 10)) (.bin .add (.bin .mul (.ld none (.ixArr 4 1 (.var 9) (.var 10))) (.const (.int .u16 16))) (.conv .u16 (.bin .sub (.var 13) (.const (.int .u8 48))))) [])
                     (.seq
                      (.set 15 (.pick (.bin .geq (.var 13) (.const (.int .u8 97))) (.bin .leq (.var 13) (.const (.int .u8 102))) (.const (.bool false))))
                     (.cond (.var 15)
                       (.store 1 (.ixArr 4 1 (.var 9) (.var 10)) (.bin .add (.bin .add (.bin .mul (.ld none (.ixArr 4 1 (.var 9) (.var 10))) (.const (.int .u16 16))) (.conv .u16 (.bin .sub (.var 13) (.const (.int .u8 97))))) (.const (.int .u16 10))) [])
                       (.seq
                        (.seq
                         (.store 6 (.var 1) (.const (.agg #[(.int .u16 0), (.int .u16 0), (.int .u16 0), (.int .u16 0), (.bool false), (.bool false)])) [])
                        (.set 2 (.const (.bool false))))
                       .ret))))))))
              (.set 12 (.bin .add (.var 12) (.const (.int .i64 1))))))))))))
       (.set 10 (.bin .add (.var 10) (.const (.int .i64 1)))))))))
  (.seq
   (.seq
    (.chk [(.upd 3 1 (.upd 2 1 (.upd 1 1 (.upd 0 1 (.const (.agg #[(.int .u16 0), (.int .u16 0), (.int .u16 0), (.int .u16 0), (.bool false), (.bool false)])) (.ld none (.ixArr 4 1 (.var 9) (.const (.int .i64 0))))) (.ld none (.ixArr 4 1 (.var 9) (.const (.int .i64 1))))) (.ld none (.ixArr 4 1 (.var 9) (.const (.int .i64 2))))) (.ld none (.ixArr 4 1 (.var 9) (.const (.int .i64 3)))))])
   (.store 6 (.var 8) (.upd 3 1 (.upd 2 1 (.upd 1 1 (.upd 0 1 (.const (.agg #[(.int .u16 0), (.int .u16 0), (.int .u16 0), (.int .u16 0), (.bool false), (.bool false)])) (.ld none (.ixArr 4 1 (.var 9) (.const (.int .i64 0))))) (.ld none (.ixArr 4 1 (.var 9) (.const (.int .i64 1))))) (.ld none (.ixArr 4 1 (.var 9) (.const (.int .i64 2))))) (.ld none (.ixArr 4 1 (.var 9) (.const (.int .i64 3))))) []))
  (.seq
   (.seq
    (.set 16 (.const (.int .i64 4)))
   (.block 7
     (.loop [0, 1, 3, 8, 16]
       (.seq
        (.cond (.bin .lss (.var 16) (.len false (.var 3)))
          .skip
          (.exit 7))
       (.seq
        (.block 8
          (.seq
           (.seq
            (.chk [(.pick (.ld none (.offp 4 (.var 8))) (.const (.bool true)) (.bin .eql (.ld none (.ixSl 1 (.var 3) (.var 16))) (.const (.string ⟨#[112, 114, 105, 118, 105, 108, 101, 103, 101, 100]⟩)))), (.pick (.ld none (.offp 4 (.var 8))) (.const (.bool false)) (.bin .eql (.ld none (.ixSl 1 (.var 3) (.var 16))) (.const (.string ⟨#[112, 114, 105, 118, 105, 108, 101, 103, 101, 100]⟩))))])
           (.store 1 (.offp 4 (.var 8)) (.pick (.ld none (.offp 4 (.var 8))) (.const (.bool true)) (.bin .eql (.ld none (.ixSl 1 (.var 3) (.var 16))) (.const (.string ⟨#[112, 114, 105, 118, 105, 108, 101, 103, 101, 100]⟩)))) []))
          (.seq
           (.chk [(.pick (.ld none (.offp 5 (.var 8))) (.const (.bool true)) (.bin .eql (.ld none (.ixSl 1 (.var 3) (.var 16))) (.const (.string ⟨#[115, 105, 103, 110, 101, 100]⟩)))), (.pick (.ld none (.offp 5 (.var 8))) (.const (.bool false)) (.bin .eql (.ld none (.ixSl 1 (.var 3) (.var 16))) (.const (.string ⟨#[115, 105, 103, 110, 101, 100]⟩))))])
          (.store 1 (.offp 5 (.var 8)) (.pick (.ld none (.offp 5 (.var 8))) (.const (.bool true)) (.bin .eql (.ld none (.ixSl 1 (.var 3) (.var 16))) (.const (.string ⟨#[115, 105, 103, 110, 101, 100]⟩)))) []))))
       (.set 16 (.bin .add (.var 16) (.const (.int .i64 1)))))))))
  (.seq
   (.seq
    (.call (some 17) 9 [(.ld (some 6) (.var 8))] [])
   (.cond (.bin .neq (.var 17) (.var 0))
     (.seq
      (.seq
       (.store 6 (.var 1) (.const (.agg #[(.int .u16 0), (.int .u16 0), (.int .u16 0), (.int .u16 0), (.bool false), (.bool false)])) [])
      (.set 2 (.const (.bool false))))
     .ret)
     .skip))
  (.seq
   (.seq
    (.store 6 (.var 1) (.ld (some 6) (.var 8)) [])
   (.set 2 (.const (.bool true))))
  .ret))))))))))))
abbrev v_tipstaffref11_Parse : List Nat := [0, 2, 3, 4, 5, 6, 32, 33, 7, 8, 9, 10, 11, 12, 77, 94, 13, 148]
abbrev k_tipstaffref11_Parse : List (List Nat) := [[0, 1, 3, 4, 5], [0, 1, 3, 8, 9, 10], [0, 1, 3, 8, 9, 10, 11, 12], [0, 1, 3, 8, 16]]
abbrev r_tipstaffref11_Parse : List Ex := [(.ld (some 6) (.var 1)), (.var 2)]
theorem ok_tipstaffref11_Parse : compile Tryd.prog Tryd.f11 v_tipstaffref11_Parse k_tipstaffref11_Parse = some (c_tipstaffref11_Parse, r_tipstaffref11_Parse) := by kernel_rfl

/- slices.Index[[]string,string] -/
def c_slices_IndexS : Cmd :=
  (.seq
   (.set 2 (.const (.int .i64 0)))
  (.seq
   (.seq
    (.seq
     (.set 4 (.len false (.var 0)))
    (.set 3 (.const (.int .i64 0))))
   (.block 0
     (.loop [0, 1, 3, 4]
       (.seq
        (.cond (.bin .lss (.var 3) (.var 4))
          .skip
          (.exit 0))
       (.seq
        (.block 1
          (.seq
           (.set 5 (.var 3))
          (.cond (.bin .eql (.var 1) (.ld none (.ixSl 1 (.var 0) (.var 5))))
            (.seq
             (.set 2 (.var 5))
            .ret)
            .skip)))
       (.set 3 (.bin .add (.var 3) (.const (.int .i64 1)))))))))
  (.seq
   (.set 2 (.const (.int .i64 (-1))))
  .ret)))
abbrev v_slices_IndexS : List Nat := [0, 1, 4, 8, 7, 5]
abbrev k_slices_IndexS : List (List Nat) := [[0, 1, 3, 4]]
abbrev r_slices_IndexS : List Ex := [(.var 2)]
theorem ok_slices_IndexS : compile Tryd.prog Tryd.f29 v_slices_IndexS k_slices_IndexS = some (c_slices_IndexS, r_slices_IndexS) := by kernel_rfl

/- slices.Contains[[]string,string] -/
def c_slices_Contains : Cmd :=
  (.seq
   (.set 2 (.const (.bool false)))
  (.seq
   (.seq
    (.call (some 3) 29 [(.var 0), (.var 1)] [])
   (.set 2 (.bin .geq (.var 3) (.const (.int .i64 0)))))
  .ret))
abbrev v_slices_Contains : List Nat := [0, 1, 4, 7]
abbrev k_slices_Contains : List (List Nat) := []
abbrev r_slices_Contains : List Ex := [(.var 2)]
theorem ok_slices_Contains : compile Tryd.prog Tryd.f17 v_slices_Contains k_slices_Contains = some (c_slices_Contains, r_slices_Contains) := by kernel_rfl

/- strconv.ParseUint -/
def c_strconv_ParseUint : Cmd :=
  (.seq
   (.seq
    (.set 3 (.const (.int .u64 0)))
   (.set 4 (.const .nilIface)))
  (.seq
   (.seq
    (.call (some 5) 27 [(.var 0), (.var 1), (.var 2)] [])
   (.seq
    (.chk [(.proj 1 (.var 5))])
   (.seq
    (.set 6 (.proj 0 (.var 5)))
   (.set 7 (.proj 1 (.var 5))))))
  (.seq
   (.cond (.isnil 3 true (.var 7))
     (.seq
      (.seq
       (.chk [(.var 6)])
      (.seq
       (.call (some 8) 28 [(.const (.string ⟨#[80, 97, 114, 115, 101, 85, 105, 110, 116]⟩)), (.var 0), (.var 1), (.var 2), (.var 7)] [])
      (.seq
       (.set 3 (.var 6))
      (.set 4 (.var 8)))))
     .ret)
     .skip)
  (.seq
   (.seq
    (.set 3 (.var 6))
   (.set 4 (.const .nilIface)))
  .ret))))
abbrev v_strconv_ParseUint : List Nat := [0, 1, 2, 6, 7, 14, 8, 9, 24]
abbrev k_strconv_ParseUint : List (List Nat) := []
abbrev r_strconv_ParseUint : List Ex := [(.var 3), (.var 4)]
theorem ok_strconv_ParseUint : compile Tryd.prog Tryd.f16 v_strconv_ParseUint k_strconv_ParseUint = some (c_strconv_ParseUint, r_strconv_ParseUint) := by kernel_rfl

/- strconv.syntaxError -/
def c_strconv_syntaxError : Cmd :=
  (.seq
   (.set 2 (.const (.pointer none)))
  (.seq
   (.seq
    .draw
   (.seq
    (.chk [(.var 1), (.var 0)])
   (.seq
    (.set 4 (.ld none (.const (.pointer (some ⟨2, 0, none⟩)))))
   (.seq
    (.call (some 3) 58 [(.var 1)] [(.ld none (.const (.pointer (some ⟨2, 0, none⟩))))])
   (.seq
    (.chk [(.upd 2 1 (.upd 1 1 (.upd 0 1 (.const (.agg #[(.string ⟨#[]⟩), (.string ⟨#[]⟩), .nilIface])) (.var 0)) (.var 3)) (.var 4))])
   (.seq
    (.new (some 5) 103 (.upd 2 1 (.upd 1 1 (.upd 0 1 (.const (.agg #[(.string ⟨#[]⟩), (.string ⟨#[]⟩), .nilIface])) (.var 0)) (.var 3)) (.var 4)) [])
   (.set 2 (.var 5))))))))
  .ret))
abbrev v_strconv_syntaxError : List Nat := [0, 1, 4, 7, 8, 10]
abbrev k_strconv_syntaxError : List (List Nat) := []
abbrev r_strconv_syntaxError : List Ex := [(.var 2)]
theorem ok_strconv_syntaxError : compile Tryd.prog Tryd.f43 v_strconv_syntaxError k_strconv_syntaxError = some (c_strconv_syntaxError, r_strconv_syntaxError) := by kernel_rfl

/- strconv.rangeError -/
def c_strconv_rangeError : Cmd :=
  (.seq
   (.set 2 (.const (.pointer none)))
  (.seq
   (.seq
    .draw
   (.seq
    (.chk [(.var 1), (.var 0)])
   (.seq
    (.set 4 (.ld none (.const (.pointer (some ⟨3, 0, none⟩)))))
   (.seq
    (.call (some 3) 58 [(.var 1)] [(.ld none (.const (.pointer (some ⟨3, 0, none⟩))))])
   (.seq
    (.chk [(.upd 2 1 (.upd 1 1 (.upd 0 1 (.const (.agg #[(.string ⟨#[]⟩), (.string ⟨#[]⟩), .nilIface])) (.var 0)) (.var 3)) (.var 4))])
   (.seq
    (.new (some 5) 103 (.upd 2 1 (.upd 1 1 (.upd 0 1 (.const (.agg #[(.string ⟨#[]⟩), (.string ⟨#[]⟩), .nilIface])) (.var 0)) (.var 3)) (.var 4)) [])
   (.set 2 (.var 5))))))))
  .ret))
abbrev v_strconv_rangeError : List Nat := [0, 1, 4, 7, 8, 10]
abbrev k_strconv_rangeError : List (List Nat) := []
abbrev r_strconv_rangeError : List Ex := [(.var 2)]
theorem ok_strconv_rangeError : compile Tryd.prog Tryd.f44 v_strconv_rangeError k_strconv_rangeError = some (c_strconv_rangeError, r_strconv_rangeError) := by kernel_rfl

/- internal/strconv.ParseUint -/
def c_internal_strconv_ParseUint : Cmd :=
  (.seq
   (.seq
    (.set 3 (.const (.int .u64 0)))
   (.set 4 (.const .nilIface)))
  (.seq
   (.seq
    (.chk [(.bin .eql (.var 0) (.const (.string ⟨#[]⟩)))])
   (.cond (.bin .eql (.var 0) (.const (.string ⟨#[]⟩)))
     (.seq
      (.seq
       (.chk [(.mkif 81 (.const (.int .i64 2)))])
      (.seq
       (.set 3 (.const (.int .u64 0)))
      (.set 4 (.mkif 81 (.const (.int .i64 2))))))
     .ret)
     .skip))
  (.seq
   (.set 5 (.bin .eql (.var 1) (.const (.int .i64 0))))
  (.seq
   (.set 6 (.var 0))
  (.seq
   (.block 0
     (.seq
      (.set 7 (.pick (.bin .leq (.const (.int .i64 2)) (.var 1)) (.bin .leq (.var 1) (.const (.int .i64 36))) (.const (.bool false))))
     (.cond (.var 7)
       .skip
       (.seq
        (.set 8 (.bin .eql (.var 1) (.const (.int .i64 0))))
       (.cond (.var 8)
         (.seq
          (.set 1 (.const (.int .i64 10)))
         (.cond (.bin .eql (.idxStr (.var 0) (.const (.int .i64 0))) (.const (.int .u8 48)))
           (.block 1
             (.seq
              (.seq
               (.chk [(.pick (.bin .geq (.len true (.var 0)) (.const (.int .i64 3))) (.idxStr (.var 0) (.const (.int .i64 1))) (.const (.bool false)))])
              (.seq
               (.cond (.pick (.bin .geq (.len true (.var 0)) (.const (.int .i64 3))) (.const (.bool true)) (.const (.bool false)))
                 (.call (some 9) 41 [(.idxStr (.var 0) (.const (.int .i64 1)))] [])
                 (.clr [9]))
              (.set 10 (.pick (.bin .geq (.len true (.var 0)) (.const (.int .i64 3))) (.bin .eql (.var 9) (.const (.int .u8 98))) (.const (.bool false))))))
             (.cond (.var 10)
               (.seq
                (.set 1 (.const (.int .i64 2)))
               (.set 0 (.slStr (.var 0) (.const (.int .i64 2)) (.len true (.var 0)))))
               (.seq
                (.seq
                 (.chk [(.pick (.bin .geq (.len true (.var 0)) (.const (.int .i64 3))) (.idxStr (.var 0) (.const (.int .i64 1))) (.const (.bool false)))])
                (.seq
                 (.cond (.pick (.bin .geq (.len true (.var 0)) (.const (.int .i64 3))) (.const (.bool true)) (.const (.bool false)))
                   (.call (some 11) 41 [(.idxStr (.var 0) (.const (.int .i64 1)))] [])
                   (.clr [11]))
                (.set 12 (.pick (.bin .geq (.len true (.var 0)) (.const (.int .i64 3))) (.bin .eql (.var 11) (.const (.int .u8 111))) (.const (.bool false))))))
               (.cond (.var 12)
                 (.seq
                  (.set 1 (.const (.int .i64 8)))
                 (.set 0 (.slStr (.var 0) (.const (.int .i64 2)) (.len true (.var 0)))))
                 (.seq
                  (.seq
                   (.chk [(.pick (.bin .geq (.len true (.var 0)) (.const (.int .i64 3))) (.idxStr (.var 0) (.const (.int .i64 1))) (.const (.bool false)))])
                  (.seq
                   (.cond (.pick (.bin .geq (.len true (.var 0)) (.const (.int .i64 3))) (.const (.bool true)) (.const (.bool false)))
                     (.call (some 13) 41 [(.idxStr (.var 0) (.const (.int .i64 1)))] [])
                     (.clr [13]))
                  (.set 14 (.pick (.bin .geq (.len true (.var 0)) (.const (.int .i64 3))) (.bin .eql (.var 13) (.const (.int .u8 120))) (.const (.bool false))))))
                 (.cond (.var 14)
                   (.seq
                    (.set 1 (.const (.int .i64 16)))
                   (.set 0 (.slStr (.var 0) (.const (.int .i64 2)) (.len true (.var 0)))))
                   (.seq
                    (.set 1 (.const (.int .i64 8)))
                   (.set 0 (.slStr (.var 0) (.const (.int .i64 1)) (.len true (.var 0))))))))))))
           .skip))
         (.seq
          (.seq
           (.chk [(.mkif 81 (.const (.int .i64 3)))])
          (.seq
           (.set 3 (.const (.int .u64 0)))
          (.set 4 (.mkif 81 (.const (.int .i64 3))))))
         .ret))))))
  (.seq
   (.cond (.bin .eql (.var 2) (.const (.int .i64 0)))
     (.set 2 (.const (.int .i64 64)))
     (.cond (.pick (.bin .lss (.var 2) (.const (.int .i64 0))) (.const (.bool true)) (.bin .gtr (.var 2) (.const (.int .i64 64))))
       (.seq
        (.seq
         (.chk [(.mkif 81 (.const (.int .i64 4)))])
        (.seq
         (.set 3 (.const (.int .u64 0)))
        (.set 4 (.mkif 81 (.const (.int .i64 4))))))
       .ret)
       .skip))
  (.seq
   (.set 15 (.const (.int .u64 0)))
  (.seq
   (.seq
    (.set 16 (.var 1))
   (.block 2
     (.seq
      (.set 17 (.bin .eql (.var 16) (.const (.int .i64 10))))
     (.cond (.var 17)
       (.set 15 (.const (.int .u64 1844674407370955162)))
       (.seq
        (.set 18 (.bin .eql (.var 16) (.const (.int .i64 16))))
       (.cond (.var 18)
         (.set 15 (.const (.int .u64 1152921504606846976)))
         (.set 15 (.bin .add (.bin .quo (.const (.int .u64 18446744073709551615)) (.conv .u64 (.var 1))) (.const (.int .u64 1))))))))))
  (.seq
   (.set 19 (.bin .sub (.bin .shl (.const (.int .u64 1)) (.conv .u64 (.var 2))) (.const (.int .u64 1))))
  (.seq
   (.set 20 (.const (.bool false)))
  (.seq
   (.set 21 (.const (.int .u64 0)))
  (.seq
   (.seq
    (.seq
     (.sem (some 22) (.cv 9 58) [(.var 0)] [])
    (.seq
     (.set 24 (.len false (.var 22)))
    (.set 23 (.const (.int .i64 0)))))
   (.block 3
     (.loop [1, 5, 6, 15, 19, 20, 21, 22, 23, 24]
       (.seq
        (.cond (.bin .lss (.var 23) (.var 24))
          .skip
          (.exit 3))
       (.seq
        (.block 4
          (.seq
           (.set 25 (.ld none (.ixSl 1 (.var 22) (.var 23))))
          (.seq
           (.set 26 (.const (.int .u8 0)))
          (.seq
           (.block 5
             (.seq
              (.set 27 (.pick (.bin .eql (.var 25) (.const (.int .u8 95))) (.var 5) (.const (.bool false))))
             (.cond (.var 27)
               (.seq
                (.set 20 (.const (.bool true)))
               (.exit 4))
               (.seq
                (.set 28 (.pick (.bin .leq (.const (.int .u8 48)) (.var 25)) (.bin .leq (.var 25) (.const (.int .u8 57))) (.const (.bool false))))
               (.cond (.var 28)
                 (.set 26 (.bin .sub (.var 25) (.const (.int .u8 48))))
                 (.seq
                  (.seq
                   (.call (some 29) 41 [(.var 25)] [])
                  (.seq
                   (.chk [(.pick (.bin .leq (.const (.int .u8 97)) (.var 29)) (.var 25) (.const (.bool false)))])
                  (.seq
                   (.cond (.pick (.bin .leq (.const (.int .u8 97)) (.var 29)) (.const (.bool true)) (.const (.bool false)))
                     (.call (some 30) 41 [(.var 25)] [])
                     (.clr [30]))
                  (.set 31 (.pick (.bin .leq (.const (.int .u8 97)) (.var 29)) (.bin .leq (.var 30) (.const (.int .u8 122))) (.const (.bool false)))))))
                 (.cond (.var 31)
                   (.seq
                    (.call (some 32) 41 [(.var 25)] [])
                   (.set 26 (.bin .add (.bin .sub (.var 32) (.const (.int .u8 97))) (.const (.int .u8 10)))))
                   (.seq
                    (.seq
                     (.chk [(.mkif 81 (.const (.int .i64 2)))])
                    (.seq
                     (.set 3 (.const (.int .u64 0)))
                    (.set 4 (.mkif 81 (.const (.int .i64 2))))))
                   .ret))))))))
          (.seq
           (.cond (.bin .geq (.var 26) (.conv .u8 (.var 1)))
             (.seq
              (.seq
               (.chk [(.mkif 81 (.const (.int .i64 2)))])
              (.seq
               (.set 3 (.const (.int .u64 0)))
              (.set 4 (.mkif 81 (.const (.int .i64 2))))))
             .ret)
             .skip)
          (.seq
           (.cond (.bin .geq (.var 21) (.var 15))
             (.seq
              (.seq
               (.chk [(.mkif 81 (.const (.int .i64 1)))])
              (.seq
               (.set 3 (.var 19))
              (.set 4 (.mkif 81 (.const (.int .i64 1))))))
             .ret)
             .skip)
          (.seq
           (.set 21 (.bin .mul (.var 21) (.conv .u64 (.var 1))))
          (.seq
           (.set 33 (.bin .add (.var 21) (.conv .u64 (.var 26))))
          (.seq
           (.cond (.pick (.bin .lss (.var 33) (.var 21)) (.const (.bool true)) (.bin .gtr (.var 33) (.var 19)))
             (.seq
              (.seq
               (.chk [(.mkif 81 (.const (.int .i64 1)))])
              (.seq
               (.set 3 (.var 19))
              (.set 4 (.mkif 81 (.const (.int .i64 1))))))
             .ret)
             .skip)
          (.set 21 (.var 33)))))))))))
       (.set 23 (.bin .add (.var 23) (.const (.int .i64 1)))))))))
  (.seq
   (.seq
    (.seq
     (.chk [(.pick (.var 20) (.var 6) (.const (.bool false)))])
    (.cond (.pick (.var 20) (.const (.bool true)) (.const (.bool false)))
      (.call (some 34) 42 [(.var 6)] [])
      (.clr [34])))
   (.cond (.pick (.var 20) (.un .not (.var 34)) (.const (.bool false)))
     (.seq
      (.seq
       (.chk [(.mkif 81 (.const (.int .i64 2)))])
      (.seq
       (.set 3 (.const (.int .u64 0)))
      (.set 4 (.mkif 81 (.const (.int .i64 2))))))
     .ret)
     .skip))
  (.seq
   (.seq
    (.set 3 (.var 21))
   (.set 4 (.const .nilIface)))
  .ret))))))))))))))
abbrev v_internal_strconv_ParseUint : List Nat := [0, 1, 2, 6, 7, 8, 9, 25, 32, 47, 40, 59, 52, 71, 64, 10, 85, 90, 92, 11, 12, 13, 99, 101, 100, 15, 16, 106, 112, 123, 127, 121, 131, 17, 167]
abbrev k_internal_strconv_ParseUint : List (List Nat) := [[1, 5, 6, 15, 19, 20, 21, 22, 23, 24]]
abbrev r_internal_strconv_ParseUint : List Ex := [(.var 3), (.var 4)]
theorem ok_internal_strconv_ParseUint : compile Tryd.prog Tryd.f27 v_internal_strconv_ParseUint k_internal_strconv_ParseUint = some (c_internal_strconv_ParseUint, r_internal_strconv_ParseUint) := by kernel_rfl

/- internal/strconv.lower -/
def c_internal_strconv_lower : Cmd :=
  (.seq
   (.set 1 (.const (.int .u8 0)))
  (.seq
   (.set 1 (.bin .or (.var 0) (.const (.int .u8 32))))
  .ret))
abbrev v_internal_strconv_lower : List Nat := [0, 2]
abbrev k_internal_strconv_lower : List (List Nat) := []
abbrev r_internal_strconv_lower : List Ex := [(.var 1)]
theorem ok_internal_strconv_lower : compile Tryd.prog Tryd.f41 v_internal_strconv_lower k_internal_strconv_lower = some (c_internal_strconv_lower, r_internal_strconv_lower) := by kernel_rfl

/- internal/strconv.underscoreOK -/
def c_internal_strconv_underscoreOK : Cmd :=
  (.seq
   (.set 1 (.const (.bool false)))
  (.seq
   (.set 2 (.const (.int .i32 94)))
  (.seq
   (.set 3 (.const (.int .i64 0)))
  (.seq
   (.cond (.pick (.bin .geq (.len true (.var 0)) (.const (.int .i64 1))) (.pick (.bin .eql (.idxStr (.var 0) (.const (.int .i64 0))) (.const (.int .u8 45))) (.const (.bool true)) (.bin .eql (.idxStr (.var 0) (.const (.int .i64 0))) (.const (.int .u8 43)))) (.const (.bool false)))
     (.set 0 (.slStr (.var 0) (.const (.int .i64 1)) (.len true (.var 0))))
     .skip)
  (.seq
   (.set 4 (.const (.bool false)))
  (.seq
   (.seq
    (.seq
     (.chk [(.pick (.pick (.bin .geq (.len true (.var 0)) (.const (.int .i64 2))) (.bin .eql (.idxStr (.var 0) (.const (.int .i64 0))) (.const (.int .u8 48))) (.const (.bool false))) (.idxStr (.var 0) (.const (.int .i64 1))) (.const (.bool false)))])
    (.seq
     (.cond (.pick (.pick (.bin .geq (.len true (.var 0)) (.const (.int .i64 2))) (.bin .eql (.idxStr (.var 0) (.const (.int .i64 0))) (.const (.int .u8 48))) (.const (.bool false))) (.const (.bool true)) (.const (.bool false)))
       (.call (some 5) 41 [(.idxStr (.var 0) (.const (.int .i64 1)))] [])
       (.clr [5]))
    (.seq
     (.chk [(.pick (.pick (.bin .geq (.len true (.var 0)) (.const (.int .i64 2))) (.bin .eql (.idxStr (.var 0) (.const (.int .i64 0))) (.const (.int .u8 48))) (.const (.bool false))) (.pick (.bin .eql (.var 5) (.const (.int .u8 98))) (.const (.bool false)) (.idxStr (.var 0) (.const (.int .i64 1)))) (.const (.bool false)))])
    (.seq
     (.cond (.pick (.pick (.bin .geq (.len true (.var 0)) (.const (.int .i64 2))) (.bin .eql (.idxStr (.var 0) (.const (.int .i64 0))) (.const (.int .u8 48))) (.const (.bool false))) (.pick (.bin .eql (.var 5) (.const (.int .u8 98))) (.const (.bool false)) (.const (.bool true))) (.const (.bool false)))
       (.call (some 6) 41 [(.idxStr (.var 0) (.const (.int .i64 1)))] [])
       (.clr [6]))
    (.seq
     (.chk [(.pick (.pick (.bin .geq (.len true (.var 0)) (.const (.int .i64 2))) (.bin .eql (.idxStr (.var 0) (.const (.int .i64 0))) (.const (.int .u8 48))) (.const (.bool false))) (.pick (.pick (.bin .eql (.var 5) (.const (.int .u8 98))) (.const (.bool true)) (.bin .eql (.var 6) (.const (.int .u8 111)))) (.const (.bool false)) (.idxStr (.var 0) (.const (.int .i64 1)))) (.const (.bool false)))])
    (.cond (.pick (.pick (.bin .geq (.len true (.var 0)) (.const (.int .i64 2))) (.bin .eql (.idxStr (.var 0) (.const (.int .i64 0))) (.const (.int .u8 48))) (.const (.bool false))) (.pick (.pick (.bin .eql (.var 5) (.const (.int .u8 98))) (.const (.bool true)) (.bin .eql (.var 6) (.const (.int .u8 111)))) (.const (.bool false)) (.const (.bool true))) (.const (.bool false)))
      (.call (some 7) 41 [(.idxStr (.var 0) (.const (.int .i64 1)))] [])
      (.clr [7])))))))
   (.cond (.pick (.pick (.bin .geq (.len true (.var 0)) (.const (.int .i64 2))) (.bin .eql (.idxStr (.var 0) (.const (.int .i64 0))) (.const (.int .u8 48))) (.const (.bool false))) (.pick (.pick (.bin .eql (.var 5) (.const (.int .u8 98))) (.const (.bool true)) (.bin .eql (.var 6) (.const (.int .u8 111)))) (.const (.bool true)) (.bin .eql (.var 7) (.const (.int .u8 120)))) (.const (.bool false)))
     (.seq
      (.set 3 (.const (.int .i64 2)))
     (.seq
      (.set 2 (.const (.int .i32 48)))
     (.seq
      (.call (some 8) 41 [(.idxStr (.var 0) (.const (.int .i64 1)))] [])
     (.set 4 (.bin .eql (.var 8) (.const (.int .u8 120)))))))
     .skip))
  (.seq
   (.block 0
     (.loop [0, 2, 3, 4]
       (.seq
        (.cond (.bin .lss (.var 3) (.len true (.var 0)))
          .skip
          (.exit 0))
       (.seq
        (.block 1
          (.seq
           (.seq
            (.seq
             (.chk [(.pick (.pick (.bin .leq (.const (.int .u8 48)) (.idxStr (.var 0) (.var 3))) (.bin .leq (.idxStr (.var 0) (.var 3)) (.const (.int .u8 57))) (.const (.bool false))) (.const (.bool false)) (.pick (.var 4) (.idxStr (.var 0) (.var 3)) (.const (.bool false))))])
            (.seq
             (.cond (.pick (.pick (.bin .leq (.const (.int .u8 48)) (.idxStr (.var 0) (.var 3))) (.bin .leq (.idxStr (.var 0) (.var 3)) (.const (.int .u8 57))) (.const (.bool false))) (.const (.bool false)) (.pick (.var 4) (.const (.bool true)) (.const (.bool false))))
               (.call (some 9) 41 [(.idxStr (.var 0) (.var 3))] [])
               (.clr [9]))
            (.seq
             (.chk [(.pick (.pick (.bin .leq (.const (.int .u8 48)) (.idxStr (.var 0) (.var 3))) (.bin .leq (.idxStr (.var 0) (.var 3)) (.const (.int .u8 57))) (.const (.bool false))) (.const (.bool false)) (.pick (.pick (.var 4) (.bin .leq (.const (.int .u8 97)) (.var 9)) (.const (.bool false))) (.idxStr (.var 0) (.var 3)) (.const (.bool false))))])
            (.cond (.pick (.pick (.bin .leq (.const (.int .u8 48)) (.idxStr (.var 0) (.var 3))) (.bin .leq (.idxStr (.var 0) (.var 3)) (.const (.int .u8 57))) (.const (.bool false))) (.const (.bool false)) (.pick (.pick (.var 4) (.bin .leq (.const (.int .u8 97)) (.var 9)) (.const (.bool false))) (.const (.bool true)) (.const (.bool false))))
              (.call (some 10) 41 [(.idxStr (.var 0) (.var 3))] [])
              (.clr [10])))))
           (.cond (.pick (.pick (.bin .leq (.const (.int .u8 48)) (.idxStr (.var 0) (.var 3))) (.bin .leq (.idxStr (.var 0) (.var 3)) (.const (.int .u8 57))) (.const (.bool false))) (.const (.bool true)) (.pick (.pick (.var 4) (.bin .leq (.const (.int .u8 97)) (.var 9)) (.const (.bool false))) (.bin .leq (.var 10) (.const (.int .u8 102))) (.const (.bool false))))
             (.seq
              (.set 2 (.const (.int .i32 48)))
             (.exit 1))
             .skip))
          (.seq
           (.cond (.bin .eql (.idxStr (.var 0) (.var 3)) (.const (.int .u8 95)))
             (.seq
              (.cond (.bin .neq (.var 2) (.const (.int .i32 48)))
                (.seq
                 (.set 1 (.const (.bool false)))
                .ret)
                .skip)
             (.seq
              (.set 2 (.const (.int .i32 95)))
             (.exit 1)))
             .skip)
          (.seq
           (.cond (.bin .eql (.var 2) (.const (.int .i32 95)))
             (.seq
              (.set 1 (.const (.bool false)))
             .ret)
             .skip)
          (.set 2 (.const (.int .i32 33)))))))
       (.set 3 (.bin .add (.var 3) (.const (.int .i64 1))))))))
  (.seq
   (.set 1 (.bin .neq (.var 2) (.const (.int .i32 95))))
  .ret))))))))
abbrev v_internal_strconv_underscoreOK : List Nat := [0, 2, 3, 4, 5, 32, 37, 43, 49, 73, 80]
abbrev k_internal_strconv_underscoreOK : List (List Nat) := [[0, 2, 3, 4]]
abbrev r_internal_strconv_underscoreOK : List Ex := [(.var 1)]
theorem ok_internal_strconv_underscoreOK : compile Tryd.prog Tryd.f42 v_internal_strconv_underscoreOK k_internal_strconv_underscoreOK = some (c_internal_strconv_underscoreOK, r_internal_strconv_underscoreOK) := by kernel_rfl
end Go.Proofs.YtaaicadjoghbcaaDoor
