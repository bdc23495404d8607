/- Commands of functions, and that they are what the code comes to. -/
import Derived.Test.YtpannhipchnhaaaGreatDoorCmdsVm
import Derived.Test.YtpannhipchnhaaaGreatDoorRows
namespace Go.Proofs.YtpannhipchnhaaaGreatDoor
open Go.Eng
/- tipstaff/tipstafflaw23.AsmParses -/
def c_tipstafflaw23_AsmParses : Cmd :=
  (.seq
   (.set 1 (.const (.bool false)))
  (.seq
   (.set 2 (.const (.string ⟨#[]⟩)))
  (.seq
   (.set 3 (.const (.int .i64 0)))
  (.seq
   (.set 4 (.const (.slice none 0 0)))
  (.seq
   (.seq
    (.set 5 (.const (.int .i64 0)))
   (.block 0
     (.loop [0, 2, 3, 4, 5]
       (.seq
        (.cond (.pick (.bin .lss (.var 5) (.len false (.var 0))) (.bin .lss (.var 5) (.const (.int .i64 6))) (.const (.bool false)))
          .skip
          (.exit 0))
       (.seq
        (.block 1
          (.seq
           (.seq
            .draw
           (.seq
            (.call (some 6) 7 [(.slStr (.ld none (.ixSl 1 (.var 0) (.var 5))) (.const (.int .i64 0)) (.mn (.len true (.ld none (.ixSl 1 (.var 0) (.var 5)))) (.const (.int .i64 40))))] [])
           (.set 7 (.ld none (.ixSl 1 (.var 6) (.const (.int .i64 0)))))))
          (.seq
           (.seq
            (.chk [(.bin .add (.bin .add (.var 2) (.var 7)) (.const (.string ⟨#[10]⟩)))])
           (.set 2 (.bin .add (.bin .add (.var 2) (.var 7)) (.const (.string ⟨#[10]⟩)))))
          (.seq
           (.seq
            (.call (some 8) 8 [(.var 7)] [])
           (.seq
            (.chk [(.proj 1 (.var 8))])
           (.seq
            (.set 9 (.proj 0 (.var 8)))
           (.set 10 (.proj 1 (.var 8))))))
          (.seq
           (.cond (.pick (.un .not (.var 10)) (.bin .eql (.var 3) (.const (.int .i64 0))) (.const (.bool false)))
             (.set 3 (.bin .add (.var 5) (.const (.int .i64 1))))
             .skip)
          (.seq
           (.bi (some 11) .append [23, 23] 23 [(.var 4), (.var 9)] [])
          (.set 4 (.var 11))))))))
       (.set 5 (.bin .add (.var 5) (.const (.int .i64 1)))))))))
  (.seq
   (.seq
    (.call (some 12) 9 [(.var 2)] [])
   (.seq
    (.chk [(.proj 2 (.var 12)), (.proj 1 (.var 12))])
   (.seq
    (.set 13 (.proj 0 (.var 12)))
   (.seq
    (.set 14 (.proj 1 (.var 12)))
   (.set 15 (.proj 2 (.var 12)))))))
  (.seq
   (.seq
    (.call (some 16) 10 [] [])
   (.cond (.un .not (.var 16))
     (.seq
      (.set 1 (.const (.bool false)))
     .ret)
     .skip))
  (.seq
   (.cond (.bin .gtr (.var 3) (.const (.int .i64 0)))
     (.seq
      (.set 1 (.pick (.pick (.bin .eql (.var 15) (.const (.int .i64 22))) (.bin .eql (.var 14) (.var 3)) (.const (.bool false))) (.bin .eql (.len false (.var 13)) (.const (.int .i64 0))) (.const (.bool false))))
     .ret)
     .skip)
  (.seq
   (.seq
    (.chk [(.pick (.pick (.bin .eql (.var 15) (.const (.int .i64 0))) (.bin .eql (.var 14) (.const (.int .i64 0))) (.const (.bool false))) (.var 4) (.const (.bool false))), (.pick (.pick (.bin .eql (.var 15) (.const (.int .i64 0))) (.bin .eql (.var 14) (.const (.int .i64 0))) (.const (.bool false))) (.var 13) (.const (.bool false)))])
   (.seq
    (.cond (.pick (.pick (.bin .eql (.var 15) (.const (.int .i64 0))) (.bin .eql (.var 14) (.const (.int .i64 0))) (.const (.bool false))) (.const (.bool true)) (.const (.bool false)))
      (.call (some 17) 11 [(.var 13), (.var 4)] [])
      (.clr [17]))
   (.set 1 (.pick (.pick (.bin .eql (.var 15) (.const (.int .i64 0))) (.bin .eql (.var 14) (.const (.int .i64 0))) (.const (.bool false))) (.var 17) (.const (.bool false))))))
  .ret)))))))))
abbrev v_tipstafflaw23_AsmParses : List Nat := [0, 2, 3, 4, 5, 6, 34, 7, 43, 8, 9, 56, 59, 10, 11, 12, 63, 88]
abbrev k_tipstafflaw23_AsmParses : List (List Nat) := [[0, 2, 3, 4, 5]]
abbrev r_tipstafflaw23_AsmParses : List Ex := [(.var 1)]
theorem ok_tipstafflaw23_AsmParses : compile Tryz.prog Tryz.f3 v_tipstafflaw23_AsmParses k_tipstafflaw23_AsmParses = some (c_tipstafflaw23_AsmParses, r_tipstafflaw23_AsmParses) := by kernel_rfl

/- tipstaff/tipstafflaw23.AsmEnds -/
def c_tipstafflaw23_AsmEnds : Cmd :=
  (.seq
   (.set 2 (.const (.bool false)))
  (.seq
   (.set 3 (.bin .add (.const (.int .i64 250)) (.conv .i64 (.bin .rem (.conv .u64 (.var 0)) (.const (.int .u64 12))))))
  (.seq
   (.set 4 (.const (.string ⟨#[]⟩)))
  (.seq
   (.seq
    (.set 5 (.const (.int .i64 0)))
   (.block 0
     (.loop [1, 3, 4, 5]
       (.seq
        (.cond (.bin .lss (.var 5) (.var 3))
          .skip
          (.exit 0))
       (.seq
        (.block 1
          (.seq
           (.chk [(.bin .add (.var 4) (.const (.string ⟨#[101, 120, 105, 116, 10]⟩)))])
          (.set 4 (.bin .add (.var 4) (.const (.string ⟨#[101, 120, 105, 116, 10]⟩))))))
       (.set 5 (.bin .add (.var 5) (.const (.int .i64 1)))))))))
  (.seq
   (.cond (.var 1)
     (.set 4 (.slStr (.var 4) (.const (.int .i64 0)) (.bin .sub (.len true (.var 4)) (.const (.int .i64 1)))))
     .skip)
  (.seq
   (.seq
    (.call (some 6) 9 [(.var 4)] [])
   (.seq
    (.chk [(.proj 2 (.var 6)), (.proj 1 (.var 6))])
   (.seq
    (.set 7 (.proj 0 (.var 6)))
   (.seq
    (.set 8 (.proj 1 (.var 6)))
   (.set 9 (.proj 2 (.var 6)))))))
  (.seq
   (.seq
    (.call (some 10) 10 [] [])
   (.cond (.un .not (.var 10))
     (.seq
      (.set 2 (.const (.bool false)))
     .ret)
     .skip))
  (.seq
   (.cond (.var 1)
     (.seq
      (.set 2 (.pick (.bin .eql (.len false (.var 7)) (.const (.int .i64 0))) (.pick (.pick (.bin .eql (.var 9) (.const (.int .i64 22))) (.bin .eql (.var 8) (.var 3)) (.const (.bool false))) (.const (.bool true)) (.pick (.pick (.bin .gtr (.var 3) (.const (.int .i64 256))) (.bin .eql (.var 9) (.const (.int .i64 7))) (.const (.bool false))) (.bin .eql (.var 8) (.const (.int .i64 0))) (.const (.bool false)))) (.const (.bool false))))
     .ret)
     .skip)
  (.seq
   (.cond (.bin .gtr (.var 3) (.const (.int .i64 256)))
     (.seq
      (.set 2 (.pick (.pick (.bin .eql (.var 9) (.const (.int .i64 7))) (.bin .eql (.var 8) (.const (.int .i64 0))) (.const (.bool false))) (.bin .eql (.len false (.var 7)) (.const (.int .i64 0))) (.const (.bool false))))
     .ret)
     .skip)
  (.seq
   (.set 2 (.pick (.bin .eql (.var 9) (.const (.int .i64 0))) (.bin .eql (.len false (.var 7)) (.var 3)) (.const (.bool false))))
  .ret))))))))))
abbrev v_tipstafflaw23_AsmEnds : List Nat := [0, 1, 4, 5, 6, 7, 31, 8, 9, 10, 35]
abbrev k_tipstafflaw23_AsmEnds : List (List Nat) := [[1, 3, 4, 5]]
abbrev r_tipstafflaw23_AsmEnds : List Ex := [(.var 2)]
theorem ok_tipstafflaw23_AsmEnds : compile Tryz.prog Tryz.f4 v_tipstafflaw23_AsmEnds k_tipstafflaw23_AsmEnds = some (c_tipstafflaw23_AsmEnds, r_tipstafflaw23_AsmEnds) := by kernel_rfl

/- tipstaff/tipstafflaw23.AsmJoins -/
def c_tipstafflaw23_AsmJoins : Cmd :=
  (.seq
   (.set 2 (.const (.bool false)))
  (.seq
   (.seq
    .draw
   (.seq
    (.chk [(.slSl 5 (.var 1) (.const (.int .i64 0)) (.mn (.len false (.var 1)) (.const (.int .i64 40))))])
   (.seq
    (.set 0 (.slSl 5 (.var 0) (.const (.int .i64 0)) (.mn (.len false (.var 0)) (.const (.int .i64 40)))))
   (.set 1 (.slSl 5 (.var 1) (.const (.int .i64 0)) (.mn (.len false (.var 1)) (.const (.int .i64 40))))))))
  (.seq
   (.seq
    (.call (some 3) 12 [(.var 0)] [])
   (.seq
    (.chk [(.proj 1 (.var 3))])
   (.seq
    (.set 4 (.proj 0 (.var 3)))
   (.set 5 (.proj 1 (.var 3))))))
  (.seq
   (.seq
    (.call (some 6) 12 [(.var 1)] [])
   (.seq
    (.chk [(.proj 1 (.var 6))])
   (.seq
    (.set 7 (.proj 0 (.var 6)))
   (.set 8 (.proj 1 (.var 6))))))
  (.seq
   (.seq
    (.call (some 9) 10 [] [])
   (.cond (.pick (.pick (.un .not (.var 9)) (.const (.bool true)) (.bin .neq (.var 5) (.const (.int .i64 0)))) (.const (.bool true)) (.bin .neq (.var 8) (.const (.int .i64 0))))
     (.seq
      (.seq
       (.call (some 10) 10 [] [])
      (.set 2 (.var 10)))
     .ret)
     .skip))
  (.seq
   (.seq
    (.call (some 11) 9 [(.bin .add (.var 4) (.var 7))] [])
   (.seq
    (.chk [(.proj 2 (.var 11)), (.proj 1 (.var 11))])
   (.seq
    (.set 12 (.proj 0 (.var 11)))
   (.seq
    (.set 13 (.proj 1 (.var 11)))
   (.set 14 (.proj 2 (.var 11)))))))
  (.seq
   (.seq
    (.row (some 15) 39 0 (.const (.agg #[])) [])
   (.seq
    (.bi (some 16) .append [23, 23] 23 [(.var 15), (.var 0)] [])
   (.seq
    (.bi (some 17) .append [23, 23] 23 [(.var 16), (.var 1)] [])
   (.seq
    (.call (some 18) 12 [(.var 17)] [])
   (.seq
    (.chk [(.proj 1 (.var 18))])
   (.seq
    (.set 19 (.proj 0 (.var 18)))
   (.set 20 (.proj 1 (.var 18)))))))))
  (.seq
   (.set 2 (.pick (.pick (.pick (.pick (.bin .eql (.var 14) (.const (.int .i64 0))) (.bin .eql (.var 13) (.const (.int .i64 0))) (.const (.bool false))) (.bin .eql (.len false (.var 12)) (.bin .add (.len false (.var 0)) (.len false (.var 1)))) (.const (.bool false))) (.bin .eql (.var 20) (.const (.int .i64 0))) (.const (.bool false))) (.bin .eql (.var 19) (.bin .add (.var 4) (.var 7))) (.const (.bool false))))
  .ret))))))))
abbrev v_tipstafflaw23_AsmJoins : List Nat := [0, 1, 4, 26, 5, 6, 31, 7, 8, 34, 44, 49, 9, 10, 11, 54, 56, 58, 59, 12, 13]
abbrev k_tipstafflaw23_AsmJoins : List (List Nat) := []
abbrev r_tipstafflaw23_AsmJoins : List Ex := [(.var 2)]
theorem ok_tipstafflaw23_AsmJoins : compile Tryz.prog Tryz.f5 v_tipstafflaw23_AsmJoins k_tipstafflaw23_AsmJoins = some (c_tipstafflaw23_AsmJoins, r_tipstafflaw23_AsmJoins) := by kernel_rfl

/- tipstaff/tipstafflaw23.AsmNumbers -/
def c_tipstafflaw23_AsmNumbers : Cmd :=
  (.seq
   (.set 3 (.const (.bool false)))
  (.seq
   (.seq
    (.chk [(.upd 3 1 (.upd 0 1 (.const (.agg #[(.int .u8 0), (.int .u8 0), (.int .u8 0), (.int .i16 0), (.int .i32 0)])) (.const (.int .u8 5))) (.var 1)), (.upd 4 1 (.const (.agg #[(.int .u8 0), (.int .u8 0), (.int .u8 0), (.int .i16 0), (.int .i32 0)])) (.conv .i32 (.conv .u32 (.bin .shr (.var 2) (.const (.int .u64 32)))))), (.upd 4 1 (.upd 1 1 (.upd 0 1 (.const (.agg #[(.int .u8 0), (.int .u8 0), (.int .u8 0), (.int .i16 0), (.int .i32 0)])) (.const (.int .u8 24))) (.const (.int .u8 6))) (.conv .i32 (.conv .u32 (.var 2)))), (.upd 3 1 (.upd 2 1 (.upd 1 1 (.upd 0 1 (.const (.agg #[(.int .u8 0), (.int .u8 0), (.int .u8 0), (.int .i16 0), (.int .i32 0)])) (.const (.int .u8 121))) (.const (.int .u8 4))) (.const (.int .u8 5))) (.var 1)), (.upd 4 1 (.upd 1 1 (.upd 0 1 (.const (.agg #[(.int .u8 0), (.int .u8 0), (.int .u8 0), (.int .i16 0), (.int .i32 0)])) (.const (.int .u8 183))) (.const (.int .u8 3))) (.var 0))])
   (.seq
    (.row (some 4) 39 5 (.upd 20 5 (.upd 15 5 (.upd 10 5 (.upd 5 5 (.upd 0 5 (.const (.agg #[(.int .u8 0), (.int .u8 0), (.int .u8 0), (.int .i16 0), (.int .i32 0), (.int .u8 0), (.int .u8 0), (.int .u8 0), (.int .i16 0), (.int .i32 0), (.int .u8 0), (.int .u8 0), (.int .u8 0), (.int .i16 0), (.int .i32 0), (.int .u8 0), (.int .u8 0), (.int .u8 0), (.int .i16 0), (.int .i32 0), (.int .u8 0), (.int .u8 0), (.int .u8 0), (.int .i16 0), (.int .i32 0)])) (.upd 4 1 (.upd 1 1 (.upd 0 1 (.const (.agg #[(.int .u8 0), (.int .u8 0), (.int .u8 0), (.int .i16 0), (.int .i32 0)])) (.const (.int .u8 183))) (.const (.int .u8 3))) (.var 0))) (.upd 3 1 (.upd 2 1 (.upd 1 1 (.upd 0 1 (.const (.agg #[(.int .u8 0), (.int .u8 0), (.int .u8 0), (.int .i16 0), (.int .i32 0)])) (.const (.int .u8 121))) (.const (.int .u8 4))) (.const (.int .u8 5))) (.var 1))) (.upd 4 1 (.upd 1 1 (.upd 0 1 (.const (.agg #[(.int .u8 0), (.int .u8 0), (.int .u8 0), (.int .i16 0), (.int .i32 0)])) (.const (.int .u8 24))) (.const (.int .u8 6))) (.conv .i32 (.conv .u32 (.var 2))))) (.upd 4 1 (.const (.agg #[(.int .u8 0), (.int .u8 0), (.int .u8 0), (.int .i16 0), (.int .i32 0)])) (.conv .i32 (.conv .u32 (.bin .shr (.var 2) (.const (.int .u64 32))))))) (.upd 3 1 (.upd 0 1 (.const (.agg #[(.int .u8 0), (.int .u8 0), (.int .u8 0), (.int .i16 0), (.int .i32 0)])) (.const (.int .u8 5))) (.var 1))) [])
   (.set 5 (.var 4))))
  (.seq
   (.seq
    (.call (some 6) 12 [(.var 5)] [])
   (.seq
    (.chk [(.proj 1 (.var 6))])
   (.seq
    (.set 7 (.proj 0 (.var 6)))
   (.set 8 (.proj 1 (.var 6))))))
  (.seq
   (.seq
    (.call (some 9) 9 [(.var 7)] [])
   (.seq
    (.chk [(.proj 2 (.var 9)), (.proj 1 (.var 9))])
   (.seq
    (.set 10 (.proj 0 (.var 9)))
   (.seq
    (.set 11 (.proj 1 (.var 9)))
   (.set 12 (.proj 2 (.var 9)))))))
  (.seq
   (.seq
    (.call (some 13) 10 [] [])
   (.seq
    (.chk [(.pick (.pick (.pick (.pick (.var 13) (.bin .eql (.var 8) (.const (.int .i64 0))) (.const (.bool false))) (.bin .eql (.var 12) (.const (.int .i64 0))) (.const (.bool false))) (.bin .eql (.var 11) (.const (.int .i64 0))) (.const (.bool false))) (.var 5) (.const (.bool false))), (.pick (.pick (.pick (.pick (.var 13) (.bin .eql (.var 8) (.const (.int .i64 0))) (.const (.bool false))) (.bin .eql (.var 12) (.const (.int .i64 0))) (.const (.bool false))) (.bin .eql (.var 11) (.const (.int .i64 0))) (.const (.bool false))) (.var 10) (.const (.bool false)))])
   (.seq
    (.cond (.pick (.pick (.pick (.pick (.var 13) (.bin .eql (.var 8) (.const (.int .i64 0))) (.const (.bool false))) (.bin .eql (.var 12) (.const (.int .i64 0))) (.const (.bool false))) (.bin .eql (.var 11) (.const (.int .i64 0))) (.const (.bool false))) (.const (.bool true)) (.const (.bool false)))
      (.call (some 14) 11 [(.var 10), (.var 5)] [])
      (.clr [14]))
   (.seq
    (.chk [(.pick (.pick (.pick (.pick (.pick (.var 13) (.bin .eql (.var 8) (.const (.int .i64 0))) (.const (.bool false))) (.bin .eql (.var 12) (.const (.int .i64 0))) (.const (.bool false))) (.bin .eql (.var 11) (.const (.int .i64 0))) (.const (.bool false))) (.var 14) (.const (.bool false))) (.var 5) (.const (.bool false))), (.pick (.pick (.pick (.pick (.pick (.var 13) (.bin .eql (.var 8) (.const (.int .i64 0))) (.const (.bool false))) (.bin .eql (.var 12) (.const (.int .i64 0))) (.const (.bool false))) (.bin .eql (.var 11) (.const (.int .i64 0))) (.const (.bool false))) (.var 14) (.const (.bool false))) (.var 7) (.const (.bool false)))])
   (.seq
    (.cond (.pick (.pick (.pick (.pick (.pick (.var 13) (.bin .eql (.var 8) (.const (.int .i64 0))) (.const (.bool false))) (.bin .eql (.var 12) (.const (.int .i64 0))) (.const (.bool false))) (.bin .eql (.var 11) (.const (.int .i64 0))) (.const (.bool false))) (.var 14) (.const (.bool false))) (.const (.bool true)) (.const (.bool false)))
      (.call (some 15) 13 [(.var 5)] [])
      (.clr [15]))
   (.set 3 (.pick (.pick (.pick (.pick (.pick (.var 13) (.bin .eql (.var 8) (.const (.int .i64 0))) (.const (.bool false))) (.bin .eql (.var 12) (.const (.int .i64 0))) (.const (.bool false))) (.bin .eql (.var 11) (.const (.int .i64 0))) (.const (.bool false))) (.var 14) (.const (.bool false))) (.bin .eql (.var 7) (.var 15)) (.const (.bool false)))))))))
  .ret)))))
abbrev v_tipstafflaw23_AsmNumbers : List Nat := [0, 1, 2, 6, 28, 7, 31, 8, 9, 36, 10, 11, 12, 40, 56, 61]
abbrev k_tipstafflaw23_AsmNumbers : List (List Nat) := []
abbrev r_tipstafflaw23_AsmNumbers : List Ex := [(.var 3)]
theorem ok_tipstafflaw23_AsmNumbers : compile Tryz.prog Tryz.f6 v_tipstafflaw23_AsmNumbers k_tipstafflaw23_AsmNumbers = some (c_tipstafflaw23_AsmNumbers, r_tipstafflaw23_AsmNumbers) := by kernel_rfl

/- tipstaff/tipstafflaw23.words -/
def c_tipstafflaw23_words : Cmd :=
  (.seq
   (.set 0 (.const (.bool false)))
  (.seq
   (.seq
    (.chk [(.upd 0 1 (.const (.agg #[(.int .u8 0), (.int .u8 0), (.int .u8 0), (.int .i16 0), (.int .i32 0)])) (.const (.int .u8 149))), (.upd 4 1 (.upd 0 1 (.const (.agg #[(.int .u8 0), (.int .u8 0), (.int .u8 0), (.int .i16 0), (.int .i32 0)])) (.const (.int .u8 183))) (.const (.int .i32 7)))])
   (.seq
    (.row (some 1) 39 2 (.upd 5 5 (.upd 0 5 (.const (.agg #[(.int .u8 0), (.int .u8 0), (.int .u8 0), (.int .i16 0), (.int .i32 0), (.int .u8 0), (.int .u8 0), (.int .u8 0), (.int .i16 0), (.int .i32 0)])) (.upd 4 1 (.upd 0 1 (.const (.agg #[(.int .u8 0), (.int .u8 0), (.int .u8 0), (.int .i16 0), (.int .i32 0)])) (.const (.int .u8 183))) (.const (.int .i32 7)))) (.upd 0 1 (.const (.agg #[(.int .u8 0), (.int .u8 0), (.int .u8 0), (.int .i16 0), (.int .i32 0)])) (.const (.int .u8 149)))) [])
   (.set 2 (.var 1))))
  (.seq
   (.seq
    (.call (some 3) 12 [(.var 2)] [])
   (.seq
    (.chk [(.proj 1 (.var 3))])
   (.seq
    (.set 4 (.proj 0 (.var 3)))
   (.set 5 (.proj 1 (.var 3))))))
  (.seq
   (.seq
    (.call (some 6) 9 [(.var 4)] [])
   (.seq
    (.chk [(.proj 2 (.var 6)), (.proj 1 (.var 6))])
   (.seq
    (.set 7 (.proj 0 (.var 6)))
   (.seq
    (.set 8 (.proj 1 (.var 6)))
   (.set 9 (.proj 2 (.var 6)))))))
  (.seq
   (.seq
    (.chk [(.pick (.pick (.pick (.pick (.bin .eql (.var 5) (.const (.int .i64 0))) (.bin .eql (.var 4) (.const (.string ⟨#[109, 111, 118, 32, 114, 48, 32, 55, 10, 101, 120, 105, 116, 10]⟩))) (.const (.bool false))) (.bin .eql (.var 9) (.const (.int .i64 0))) (.const (.bool false))) (.bin .eql (.var 8) (.const (.int .i64 0))) (.const (.bool false))) (.var 2) (.const (.bool false))), (.pick (.pick (.pick (.pick (.bin .eql (.var 5) (.const (.int .i64 0))) (.bin .eql (.var 4) (.const (.string ⟨#[109, 111, 118, 32, 114, 48, 32, 55, 10, 101, 120, 105, 116, 10]⟩))) (.const (.bool false))) (.bin .eql (.var 9) (.const (.int .i64 0))) (.const (.bool false))) (.bin .eql (.var 8) (.const (.int .i64 0))) (.const (.bool false))) (.var 7) (.const (.bool false))), (.pick (.pick (.pick (.bin .eql (.var 5) (.const (.int .i64 0))) (.bin .eql (.var 4) (.const (.string ⟨#[109, 111, 118, 32, 114, 48, 32, 55, 10, 101, 120, 105, 116, 10]⟩))) (.const (.bool false))) (.bin .eql (.var 9) (.const (.int .i64 0))) (.const (.bool false))) (.bin .eql (.var 8) (.const (.int .i64 0))) (.const (.bool false))), (.pick (.pick (.pick (.bin .eql (.var 5) (.const (.int .i64 0))) (.bin .eql (.var 4) (.const (.string ⟨#[109, 111, 118, 32, 114, 48, 32, 55, 10, 101, 120, 105, 116, 10]⟩))) (.const (.bool false))) (.bin .eql (.var 9) (.const (.int .i64 0))) (.const (.bool false))) (.bin .eql (.var 8) (.const (.int .i64 0))) (.const (.bool false))), (.pick (.pick (.pick (.bin .eql (.var 5) (.const (.int .i64 0))) (.bin .eql (.var 4) (.const (.string ⟨#[109, 111, 118, 32, 114, 48, 32, 55, 10, 101, 120, 105, 116, 10]⟩))) (.const (.bool false))) (.bin .eql (.var 9) (.const (.int .i64 0))) (.const (.bool false))) (.bin .eql (.var 8) (.const (.int .i64 0))) (.const (.bool false))), (.pick (.pick (.pick (.bin .eql (.var 5) (.const (.int .i64 0))) (.bin .eql (.var 4) (.const (.string ⟨#[109, 111, 118, 32, 114, 48, 32, 55, 10, 101, 120, 105, 116, 10]⟩))) (.const (.bool false))) (.bin .eql (.var 9) (.const (.int .i64 0))) (.const (.bool false))) (.var 8) (.const (.bool false))), (.pick (.pick (.bin .eql (.var 5) (.const (.int .i64 0))) (.bin .eql (.var 4) (.const (.string ⟨#[109, 111, 118, 32, 114, 48, 32, 55, 10, 101, 120, 105, 116, 10]⟩))) (.const (.bool false))) (.bin .eql (.var 9) (.const (.int .i64 0))) (.const (.bool false))), (.pick (.pick (.bin .eql (.var 5) (.const (.int .i64 0))) (.bin .eql (.var 4) (.const (.string ⟨#[109, 111, 118, 32, 114, 48, 32, 55, 10, 101, 120, 105, 116, 10]⟩))) (.const (.bool false))) (.bin .eql (.var 9) (.const (.int .i64 0))) (.const (.bool false))), (.pick (.pick (.bin .eql (.var 5) (.const (.int .i64 0))) (.bin .eql (.var 4) (.const (.string ⟨#[109, 111, 118, 32, 114, 48, 32, 55, 10, 101, 120, 105, 116, 10]⟩))) (.const (.bool false))) (.bin .eql (.var 9) (.const (.int .i64 0))) (.const (.bool false))), (.pick (.pick (.bin .eql (.var 5) (.const (.int .i64 0))) (.bin .eql (.var 4) (.const (.string ⟨#[109, 111, 118, 32, 114, 48, 32, 55, 10, 101, 120, 105, 116, 10]⟩))) (.const (.bool false))) (.var 9) (.const (.bool false))), (.pick (.bin .eql (.var 5) (.const (.int .i64 0))) (.bin .eql (.var 4) (.const (.string ⟨#[109, 111, 118, 32, 114, 48, 32, 55, 10, 101, 120, 105, 116, 10]⟩))) (.const (.bool false))), (.pick (.bin .eql (.var 5) (.const (.int .i64 0))) (.bin .eql (.var 4) (.const (.string ⟨#[109, 111, 118, 32, 114, 48, 32, 55, 10, 101, 120, 105, 116, 10]⟩))) (.const (.bool false))), (.pick (.bin .eql (.var 5) (.const (.int .i64 0))) (.bin .eql (.var 4) (.const (.string ⟨#[109, 111, 118, 32, 114, 48, 32, 55, 10, 101, 120, 105, 116, 10]⟩))) (.const (.bool false)))])
   (.seq
    (.cond (.pick (.pick (.pick (.pick (.bin .eql (.var 5) (.const (.int .i64 0))) (.bin .eql (.var 4) (.const (.string ⟨#[109, 111, 118, 32, 114, 48, 32, 55, 10, 101, 120, 105, 116, 10]⟩))) (.const (.bool false))) (.bin .eql (.var 9) (.const (.int .i64 0))) (.const (.bool false))) (.bin .eql (.var 8) (.const (.int .i64 0))) (.const (.bool false))) (.const (.bool true)) (.const (.bool false)))
      (.call (some 10) 11 [(.var 7), (.var 2)] [])
      (.clr [10]))
   (.seq
    (.chk [(.pick (.pick (.pick (.pick (.bin .eql (.var 5) (.const (.int .i64 0))) (.bin .eql (.var 4) (.const (.string ⟨#[109, 111, 118, 32, 114, 48, 32, 55, 10, 101, 120, 105, 116, 10]⟩))) (.const (.bool false))) (.bin .eql (.var 9) (.const (.int .i64 0))) (.const (.bool false))) (.bin .eql (.var 8) (.const (.int .i64 0))) (.const (.bool false))) (.var 10) (.const (.bool false)))])
   (.set 0 (.pick (.pick (.pick (.pick (.bin .eql (.var 5) (.const (.int .i64 0))) (.bin .eql (.var 4) (.const (.string ⟨#[109, 111, 118, 32, 114, 48, 32, 55, 10, 101, 120, 105, 116, 10]⟩))) (.const (.bool false))) (.bin .eql (.var 9) (.const (.int .i64 0))) (.const (.bool false))) (.bin .eql (.var 8) (.const (.int .i64 0))) (.const (.bool false))) (.var 10) (.const (.bool false)))))))
  .ret)))))
abbrev v_tipstafflaw23_words : List Nat := [0, 9, 1, 12, 2, 3, 17, 4, 5, 6, 38]
abbrev k_tipstafflaw23_words : List (List Nat) := []
abbrev r_tipstafflaw23_words : List Ex := [(.var 0)]
theorem ok_tipstafflaw23_words : compile Tryz.prog Tryz.f10 v_tipstafflaw23_words k_tipstafflaw23_words = some (c_tipstafflaw23_words, r_tipstafflaw23_words) := by kernel_rfl

/- tipstaff/tipstaffref23.Lines -/
def c_tipstaffref23_Lines : Cmd :=
  (.seq
   (.set 1 (.const (.slice none 0 0)))
  (.seq
   (.seq
    (.row (some 2) 9 0 (.const (.agg #[])) [])
   (.set 3 (.var 2)))
  (.seq
   (.set 4 (.const (.int .i64 0)))
  (.seq
   (.seq
    (.set 5 (.const (.int .i64 0)))
   (.block 0
     (.loop [0, 3, 4, 5]
       (.seq
        (.cond (.bin .leq (.var 5) (.len true (.var 0)))
          .skip
          (.exit 0))
       (.seq
        (.block 1
          (.cond (.pick (.bin .eql (.var 5) (.len true (.var 0))) (.const (.bool true)) (.bin .eql (.idxStr (.var 0) (.var 5)) (.const (.int .u8 10))))
            (.seq
             (.seq
              (.chk [(.var 3)])
             (.seq
              (.row (some 6) 9 1 (.upd 0 1 (.const (.agg #[(.string ⟨#[]⟩)])) (.slStr (.var 0) (.var 4) (.var 5))) [])
             (.seq
              (.bi (some 7) .append [22, 22] 22 [(.var 3), (.var 6)] [])
             (.set 3 (.var 7)))))
            (.set 4 (.bin .add (.var 5) (.const (.int .i64 1)))))
            .skip))
       (.set 5 (.bin .add (.var 5) (.const (.int .i64 1)))))))))
  (.seq
   (.set 1 (.var 3))
  .ret)))))
abbrev v_tipstaffref23_Lines : List Nat := [0, 2, 6, 3, 4, 5, 28, 29]
abbrev k_tipstaffref23_Lines : List (List Nat) := [[0, 3, 4, 5]]
abbrev r_tipstaffref23_Lines : List Ex := [(.var 1)]
theorem ok_tipstaffref23_Lines : compile Tryz.prog Tryz.f7 v_tipstaffref23_Lines k_tipstaffref23_Lines = some (c_tipstaffref23_Lines, r_tipstaffref23_Lines) := by kernel_rfl

/- tipstaff/tipstaffref23.Read -/
def c_tipstaffref23_Read : Cmd :=
  (.seq
   (.seq
    (.set 1 (.const (.slice none 0 0)))
   (.set 2 (.const (.bool false))))
  (.seq
   (.set 3 (.const (.slice none 0 0)))
  (.seq
   (.set 4 (.const (.slice none 0 0)))
  (.seq
   (.seq
    (.call (some 5) 14 [(.var 0)] [])
   (.set 6 (.var 5)))
  (.seq
   (.seq
    (.set 7 (.const (.int .i64 1)))
   (.block 0
     (.loop [0, 3, 4, 6, 7]
       (.seq
        (.cond (.bin .lss (.var 7) (.len false (.var 6)))
          .skip
          (.exit 0))
       (.seq
        (.block 1
          (.seq
           (.set 8 (.ld none (.ixSl 1 (.var 6) (.var 7))))
          (.seq
           (.cond (.pick (.bin .gtr (.len true (.var 8)) (.const (.int .i64 1))) (.bin .eql (.idxStr (.var 8) (.const (.int .i64 0))) (.const (.int .u8 114))) (.const (.bool false)))
             (.seq
              (.seq
               (.call (some 9) 15 [(.slStr (.var 8) (.const (.int .i64 1)) (.len true (.var 8)))] [])
              (.seq
               (.chk [(.proj 1 (.var 9))])
              (.seq
               (.set 10 (.proj 0 (.var 9)))
              (.set 11 (.proj 1 (.var 9))))))
             (.seq
              (.cond (.pick (.pick (.un .not (.var 11)) (.const (.bool true)) (.bin .lss (.var 10) (.const (.int .i64 0)))) (.const (.bool true)) (.bin .gtr (.var 10) (.const (.int .i64 10))))
                (.seq
                 (.seq
                  (.set 1 (.const (.slice none 0 0)))
                 (.set 2 (.const (.bool false))))
                .ret)
                .skip)
             (.seq
              (.seq
               (.chk [(.var 3)])
              (.seq
               (.row (some 12) 5 1 (.upd 0 1 (.const (.agg #[(.int .u8 0)])) (.conv .u8 (.var 10))) [])
              (.seq
               (.bi (some 13) .append [44, 44] 44 [(.var 3), (.var 12)] [])
              (.set 3 (.var 13)))))
             (.exit 1))))
             .skip)
          (.seq
           (.cond (.pick (.bin .gtr (.len true (.var 8)) (.const (.int .i64 0))) (.bin .eql (.idxStr (.var 8) (.const (.int .i64 0))) (.const (.int .u8 43))) (.const (.bool false)))
             (.set 8 (.slStr (.var 8) (.const (.int .i64 1)) (.len true (.var 8))))
             .skip)
          (.seq
           (.seq
            (.call (some 14) 15 [(.var 8)] [])
           (.seq
            (.chk [(.proj 1 (.var 14))])
           (.seq
            (.set 15 (.proj 0 (.var 14)))
           (.set 16 (.proj 1 (.var 14))))))
          (.seq
           (.seq
            (.chk [(.pick (.un .not (.var 16)) (.bin .neq (.ld none (.ixSl 1 (.var 6) (.const (.int .i64 0)))) (.const (.string ⟨#[119, 105, 100, 101]⟩))) (.const (.bool false))), (.pick (.un .not (.var 16)) (.bin .neq (.ld none (.ixSl 1 (.var 6) (.const (.int .i64 0)))) (.const (.string ⟨#[119, 105, 100, 101]⟩))) (.const (.bool false)))])
           (.cond (.pick (.un .not (.var 16)) (.bin .neq (.ld none (.ixSl 1 (.var 6) (.const (.int .i64 0)))) (.const (.string ⟨#[119, 105, 100, 101]⟩))) (.const (.bool false)))
             (.seq
              (.seq
               (.set 1 (.const (.slice none 0 0)))
              (.set 2 (.const (.bool false))))
             .ret)
             .skip))
          (.seq
           (.chk [(.var 4)])
          (.seq
           (.row (some 17) 2 1 (.upd 0 1 (.const (.agg #[(.int .i64 0)])) (.var 15)) [])
          (.seq
           (.bi (some 18) .append [45, 45] 45 [(.var 4), (.var 17)] [])
          (.set 4 (.var 18)))))))))))
       (.set 7 (.bin .add (.var 7) (.const (.int .i64 1)))))))))
  (.seq
   (.seq
    (.set 19 (.const (.int .i64 0)))
   (.block 2
     (.loop [0, 3, 4, 6, 19]
       (.seq
        (.cond (.bin .lss (.var 19) (.const (.int .i64 256)))
          .skip
          (.exit 2))
       (.seq
        (.block 3
          (.seq
           (.seq
            (.call (some 20) 16 [(.conv .u8 (.var 19)), (.var 6), (.var 3), (.var 4)] [])
           (.set 21 (.var 20)))
          (.seq
           (.set 22 (.const (.int .i64 0)))
          (.block 4
            (.loop [0, 3, 4, 6, 19, 21, 22]
              (.seq
               (.cond (.bin .lss (.var 22) (.len false (.var 21)))
                 .skip
                 (.exit 4))
              (.seq
               (.block 5
                 (.seq
                  (.new (some 23) 39 (.const (.agg #[(.int .u8 0), (.int .u8 0), (.int .u8 0), (.int .i16 0), (.int .i32 0)])) [])
                 (.seq
                  (.cond (.bin .gtr (.len false (.ld none (.ixSl 1 (.var 21) (.var 22)))) (.const (.int .i64 1)))
                    (.store 5 (.var 23) (.ld (some 5) (.ixSl 5 (.ld none (.ixSl 1 (.var 21) (.var 22))) (.const (.int .i64 1)))) [])
                    .skip)
                 (.seq
                  (.seq
                   .draw
                  (.seq
                   (.call (some 24) 17 [(.ld none (.ixSl 1 (.var 21) (.var 22)))] [])
                  (.seq
                   (.chk [(.pick (.var 24) (.var 0) (.const (.bool false))), (.pick (.var 24) (.ld (some 5) (.var 23)) (.const (.bool false))), (.pick (.var 24) (.ld (some 5) (.ixSl 5 (.ld none (.ixSl 1 (.var 21) (.var 22))) (.const (.int .i64 0)))) (.const (.bool false)))])
                  (.cond (.pick (.var 24) (.const (.bool true)) (.const (.bool false)))
                    (.call (some 25) 18 [(.ld (some 5) (.ixSl 5 (.ld none (.ixSl 1 (.var 21) (.var 22))) (.const (.int .i64 0)))), (.ld (some 5) (.var 23))] [])
                    (.clr [25])))))
                 (.cond (.pick (.var 24) (.bin .eql (.var 25) (.var 0)) (.const (.bool false)))
                   (.seq
                    (.seq
                     (.set 1 (.ld none (.ixSl 1 (.var 21) (.var 22))))
                    (.set 2 (.const (.bool true))))
                   .ret)
                   .skip)))))
              (.set 22 (.bin .add (.var 22) (.const (.int .i64 1)))))))))))
       (.set 19 (.bin .add (.var 19) (.const (.int .i64 1)))))))))
  (.seq
   (.seq
    (.set 1 (.const (.slice none 0 0)))
   (.set 2 (.const (.bool false))))
  .ret)))))))
abbrev v_tipstaffref23_Read : List Nat := [0, 2, 3, 4, 5, 18, 6, 7, 8, 40, 9, 10, 56, 57, 70, 11, 12, 83, 84, 13, 94, 14, 15, 16, 117, 126]
abbrev k_tipstaffref23_Read : List (List Nat) := [[0, 3, 4, 6, 7], [0, 3, 4, 6, 19], [0, 3, 4, 6, 19, 21, 22]]
abbrev r_tipstaffref23_Read : List Ex := [(.var 1), (.var 2)]
theorem ok_tipstaffref23_Read : compile Tryz.prog Tryz.f8 v_tipstaffref23_Read k_tipstaffref23_Read = some (c_tipstaffref23_Read, r_tipstaffref23_Read) := by kernel_rfl

/- tipstaff/tipstaffref23.Text -/
def c_tipstaffref23_Text : Cmd :=
  (.seq
   (.set 1 (.const (.string ⟨#[]⟩)))
  (.seq
   (.set 2 (.const (.string ⟨#[]⟩)))
  (.seq
   (.seq
    (.set 3 (.const (.int .i64 0)))
   (.block 0
     (.loop [0, 2, 3]
       (.seq
        (.cond (.bin .lss (.var 3) (.len false (.var 0)))
          .skip
          (.exit 0))
       (.seq
        (.block 1
          (.seq
           (.seq
            (.call (some 4) 27 [(.ld none (.offp 0 (.ixSl 5 (.var 0) (.var 3))))] [])
           (.set 5 (.part none 0 (.var 4))))
          (.seq
           (.cond (.bin .eql (.var 5) (.const (.int .i64 10)))
             (.exit 1)
             .skip)
          (.seq
           (.seq
            (.new (some 6) 39 (.const (.agg #[(.int .u8 0), (.int .u8 0), (.int .u8 0), (.int .i16 0), (.int .i32 0)])) [])
           (.store 5 (.var 6) (.const (.agg #[(.int .u8 0), (.int .u8 0), (.int .u8 0), (.int .i16 0), (.int .i32 0)])) []))
          (.seq
           (.cond (.bin .eql (.var 5) (.const (.int .i64 9)))
             (.store 5 (.var 6) (.ld (some 5) (.ixSl 5 (.var 0) (.bin .add (.var 3) (.const (.int .i64 1))))) [])
             .skip)
          (.seq
           .draw
          (.seq
           (.chk [(.var 2)])
          (.seq
           (.call (some 7) 18 [(.ld (some 5) (.ixSl 5 (.var 0) (.var 3))), (.ld (some 5) (.var 6))] [])
          (.seq
           (.chk [(.bin .add (.bin .add (.var 2) (.var 7)) (.const (.string ⟨#[10]⟩)))])
          (.set 2 (.bin .add (.bin .add (.var 2) (.var 7)) (.const (.string ⟨#[10]⟩)))))))))))))
       (.set 3 (.bin .add (.var 3) (.const (.int .i64 1)))))))))
  (.seq
   (.set 1 (.var 2))
  .ret))))
abbrev v_tipstaffref23_Text : List Nat := [0, 2, 3, 4, 18, 5, 6, 36]
abbrev k_tipstaffref23_Text : List (List Nat) := [[0, 2, 3]]
abbrev r_tipstaffref23_Text : List Ex := [(.var 1)]
theorem ok_tipstaffref23_Text : compile Tryz.prog Tryz.f13 v_tipstaffref23_Text k_tipstaffref23_Text = some (c_tipstaffref23_Text, r_tipstaffref23_Text) := by kernel_rfl

/- tipstaff/tipstaffref23.words -/
def c_tipstaffref23_words : Cmd :=
  (.seq
   (.set 1 (.const (.slice none 0 0)))
  (.seq
   (.seq
    (.row (some 2) 9 0 (.const (.agg #[])) [])
   (.set 3 (.var 2)))
  (.seq
   (.set 4 (.const (.string ⟨#[]⟩)))
  (.seq
   (.seq
    (.set 5 (.const (.int .i64 0)))
   (.block 0
     (.loop [0, 3, 4, 5]
       (.seq
        (.cond (.bin .leq (.var 5) (.len true (.var 0)))
          .skip
          (.exit 0))
       (.seq
        (.block 1
          (.cond (.pick (.bin .eql (.var 5) (.len true (.var 0))) (.const (.bool true)) (.bin .eql (.idxStr (.var 0) (.var 5)) (.const (.int .u8 32))))
            (.seq
             (.seq
              (.chk [(.var 3)])
             (.seq
              (.row (some 6) 9 1 (.upd 0 1 (.const (.agg #[(.string ⟨#[]⟩)])) (.var 4)) [])
             (.seq
              (.bi (some 7) .append [22, 22] 22 [(.var 3), (.var 6)] [])
             (.set 3 (.var 7)))))
            (.set 4 (.const (.string ⟨#[]⟩))))
            (.set 4 (.bin .add (.var 4) (.slStr (.var 0) (.var 5) (.bin .add (.var 5) (.const (.int .i64 1))))))))
       (.set 5 (.bin .add (.var 5) (.const (.int .i64 1)))))))))
  (.seq
   (.set 1 (.var 3))
  .ret)))))
abbrev v_tipstaffref23_words : List Nat := [0, 2, 6, 3, 4, 5, 25, 26]
abbrev k_tipstaffref23_words : List (List Nat) := [[0, 3, 4, 5]]
abbrev r_tipstaffref23_words : List Ex := [(.var 1)]
theorem ok_tipstaffref23_words : compile Tryz.prog Tryz.f14 v_tipstaffref23_words k_tipstaffref23_words = some (c_tipstaffref23_words, r_tipstaffref23_words) := by kernel_rfl

/- tipstaff/tipstaffref23.number -/
def c_tipstaffref23_number : Cmd :=
  (.seq
   (.seq
    (.set 1 (.const (.int .i64 0)))
   (.set 2 (.const (.bool false))))
  (.seq
   (.set 3 (.pick (.bin .gtr (.len true (.var 0)) (.const (.int .i64 0))) (.bin .eql (.idxStr (.var 0) (.const (.int .i64 0))) (.const (.int .u8 45))) (.const (.bool false))))
  (.seq
   (.set 4 (.var 0))
  (.seq
   (.cond (.var 3)
     (.set 4 (.slStr (.var 0) (.const (.int .i64 1)) (.len true (.var 0))))
     .skip)
  (.seq
   (.seq
    (.chk [(.pick (.pick (.pick (.bin .lss (.len true (.var 4)) (.const (.int .i64 1))) (.const (.bool true)) (.bin .gtr (.len true (.var 4)) (.const (.int .i64 12)))) (.const (.bool true)) (.pick (.bin .gtr (.len true (.var 4)) (.const (.int .i64 1))) (.bin .eql (.idxStr (.var 4) (.const (.int .i64 0))) (.const (.int .u8 48))) (.const (.bool false)))) (.const (.bool true)) (.pick (.var 3) (.bin .eql (.var 4) (.const (.string ⟨#[48]⟩))) (.const (.bool false)))), (.pick (.pick (.pick (.bin .lss (.len true (.var 4)) (.const (.int .i64 1))) (.const (.bool true)) (.bin .gtr (.len true (.var 4)) (.const (.int .i64 12)))) (.const (.bool true)) (.pick (.bin .gtr (.len true (.var 4)) (.const (.int .i64 1))) (.bin .eql (.idxStr (.var 4) (.const (.int .i64 0))) (.const (.int .u8 48))) (.const (.bool false)))) (.const (.bool false)) (.pick (.var 3) (.bin .eql (.var 4) (.const (.string ⟨#[48]⟩))) (.const (.bool false)))), (.pick (.pick (.pick (.bin .lss (.len true (.var 4)) (.const (.int .i64 1))) (.const (.bool true)) (.bin .gtr (.len true (.var 4)) (.const (.int .i64 12)))) (.const (.bool true)) (.pick (.bin .gtr (.len true (.var 4)) (.const (.int .i64 1))) (.bin .eql (.idxStr (.var 4) (.const (.int .i64 0))) (.const (.int .u8 48))) (.const (.bool false)))) (.const (.bool false)) (.pick (.var 3) (.bin .eql (.var 4) (.const (.string ⟨#[48]⟩))) (.const (.bool false))))])
   (.cond (.pick (.pick (.pick (.bin .lss (.len true (.var 4)) (.const (.int .i64 1))) (.const (.bool true)) (.bin .gtr (.len true (.var 4)) (.const (.int .i64 12)))) (.const (.bool true)) (.pick (.bin .gtr (.len true (.var 4)) (.const (.int .i64 1))) (.bin .eql (.idxStr (.var 4) (.const (.int .i64 0))) (.const (.int .u8 48))) (.const (.bool false)))) (.const (.bool true)) (.pick (.var 3) (.bin .eql (.var 4) (.const (.string ⟨#[48]⟩))) (.const (.bool false))))
     (.seq
      (.seq
       (.set 1 (.const (.int .i64 0)))
      (.set 2 (.const (.bool false))))
     .ret)
     .skip))
  (.seq
   (.set 5 (.const (.int .i64 0)))
  (.seq
   (.seq
    (.set 6 (.const (.int .i64 0)))
   (.block 0
     (.loop [3, 4, 5, 6]
       (.seq
        (.cond (.bin .lss (.var 6) (.len true (.var 4)))
          .skip
          (.exit 0))
       (.seq
        (.block 1
          (.seq
           (.cond (.pick (.bin .lss (.idxStr (.var 4) (.var 6)) (.const (.int .u8 48))) (.const (.bool true)) (.bin .gtr (.idxStr (.var 4) (.var 6)) (.const (.int .u8 57))))
             (.seq
              (.seq
               (.set 1 (.const (.int .i64 0)))
              (.set 2 (.const (.bool false))))
             .ret)
             .skip)
          (.set 5 (.bin .add (.bin .mul (.const (.int .i64 10)) (.var 5)) (.conv .i64 (.bin .sub (.idxStr (.var 4) (.var 6)) (.const (.int .u8 48))))))))
       (.set 6 (.bin .add (.var 6) (.const (.int .i64 1)))))))))
  (.seq
   (.cond (.var 3)
     (.set 5 (.bin .sub (.const (.int .i64 0)) (.var 5)))
     .skip)
  (.seq
   (.seq
    (.set 1 (.var 5))
   (.set 2 (.const (.bool true))))
  .ret)))))))))
abbrev v_tipstaffref23_number : List Nat := [0, 2, 3, 4, 5, 6, 7]
abbrev k_tipstaffref23_number : List (List Nat) := [[3, 4, 5, 6]]
abbrev r_tipstaffref23_number : List Ex := [(.var 1), (.var 2)]
theorem ok_tipstaffref23_number : compile Tryz.prog Tryz.f15 v_tipstaffref23_number k_tipstaffref23_number = some (c_tipstaffref23_number, r_tipstaffref23_number) := by kernel_rfl

/- tipstaff/tipstaffref23.fill -/
def c_tipstaffref23_fill : Cmd :=
  (.seq
   (.set 4 (.const (.slice none 0 0)))
  (.seq
   (.seq
    (.call (some 5) 27 [(.var 0)] [])
   (.seq
    (.new (some 6) 66 (.const (.agg #[(.int .i64 0), (.int .i64 0), (.int .i64 0), (.bool false), (.bool false)])) [])
   (.store 5 (.var 6) (.var 5) [])))
  (.seq
   (.cond (.pick (.bin .eql (.ld none (.offp 0 (.var 6))) (.const (.int .i64 0))) (.const (.bool true)) (.bin .eql (.ld none (.offp 0 (.var 6))) (.const (.int .i64 10))))
     (.seq
      (.set 4 (.const (.slice none 0 0)))
     .ret)
     .skip)
  (.seq
   (.seq
    (.chk [(.upd 0 1 (.const (.agg #[(.int .u8 0), (.int .u8 0), (.int .u8 0), (.int .i16 0), (.int .i32 0)])) (.var 0))])
   (.seq
    (.new (some 7) 39 (.const (.agg #[(.int .u8 0), (.int .u8 0), (.int .u8 0), (.int .i16 0), (.int .i32 0)])) [])
   (.store 5 (.var 7) (.upd 0 1 (.const (.agg #[(.int .u8 0), (.int .u8 0), (.int .u8 0), (.int .i16 0), (.int .i32 0)])) (.var 0)) [])))
  (.seq
   (.cond (.bin .gtr (.len false (.var 2)) (.const (.int .i64 0)))
     (.store 1 (.offp 1 (.var 7)) (.ld none (.ixSl 1 (.var 2) (.const (.int .i64 0)))) [])
     .skip)
  (.seq
   (.cond (.bin .gtr (.len false (.var 2)) (.const (.int .i64 1)))
     (.store 1 (.offp 2 (.var 7)) (.ld none (.ixSl 1 (.var 2) (.const (.int .i64 1)))) [])
     .skip)
  (.seq
   (.cond (.bin .eql (.ld none (.offp 0 (.var 6))) (.const (.int .i64 9)))
     (.seq
      (.seq
       (.chk [(.pick (.pick (.pick (.bin .eql (.ld none (.ixSl 1 (.var 1) (.const (.int .i64 0)))) (.const (.string ⟨#[109, 97, 112]⟩))) (.bin .eql (.len false (.var 3)) (.const (.int .i64 1))) (.const (.bool false))) (.bin .geq (.ld none (.ixSl 1 (.var 3) (.const (.int .i64 0)))) (.const (.int .i64 0))) (.const (.bool false))) (.bin .lss (.ld none (.ixSl 1 (.var 3) (.const (.int .i64 0)))) (.const (.int .i64 4))) (.const (.bool false))), (.pick (.pick (.pick (.bin .eql (.ld none (.ixSl 1 (.var 1) (.const (.int .i64 0)))) (.const (.string ⟨#[109, 97, 112]⟩))) (.bin .eql (.len false (.var 3)) (.const (.int .i64 1))) (.const (.bool false))) (.bin .geq (.ld none (.ixSl 1 (.var 3) (.const (.int .i64 0)))) (.const (.int .i64 0))) (.const (.bool false))) (.bin .lss (.ld none (.ixSl 1 (.var 3) (.const (.int .i64 0)))) (.const (.int .i64 4))) (.const (.bool false))), (.pick (.pick (.pick (.bin .eql (.ld none (.ixSl 1 (.var 1) (.const (.int .i64 0)))) (.const (.string ⟨#[109, 97, 112]⟩))) (.bin .eql (.len false (.var 3)) (.const (.int .i64 1))) (.const (.bool false))) (.bin .geq (.ld none (.ixSl 1 (.var 3) (.const (.int .i64 0)))) (.const (.int .i64 0))) (.const (.bool false))) (.ld none (.ixSl 1 (.var 3) (.const (.int .i64 0)))) (.const (.bool false))), (.pick (.pick (.pick (.bin .eql (.ld none (.ixSl 1 (.var 1) (.const (.int .i64 0)))) (.const (.string ⟨#[109, 97, 112]⟩))) (.bin .eql (.len false (.var 3)) (.const (.int .i64 1))) (.const (.bool false))) (.bin .geq (.ld none (.ixSl 1 (.var 3) (.const (.int .i64 0)))) (.const (.int .i64 0))) (.const (.bool false))) (.ixSl 1 (.var 3) (.const (.int .i64 0))) (.const (.bool false))), (.pick (.pick (.pick (.bin .eql (.ld none (.ixSl 1 (.var 1) (.const (.int .i64 0)))) (.const (.string ⟨#[109, 97, 112]⟩))) (.bin .eql (.len false (.var 3)) (.const (.int .i64 1))) (.const (.bool false))) (.bin .geq (.ld none (.ixSl 1 (.var 3) (.const (.int .i64 0)))) (.const (.int .i64 0))) (.const (.bool false))) (.var 3) (.const (.bool false))), (.pick (.pick (.bin .eql (.ld none (.ixSl 1 (.var 1) (.const (.int .i64 0)))) (.const (.string ⟨#[109, 97, 112]⟩))) (.bin .eql (.len false (.var 3)) (.const (.int .i64 1))) (.const (.bool false))) (.bin .geq (.ld none (.ixSl 1 (.var 3) (.const (.int .i64 0)))) (.const (.int .i64 0))) (.const (.bool false))), (.pick (.pick (.bin .eql (.ld none (.ixSl 1 (.var 1) (.const (.int .i64 0)))) (.const (.string ⟨#[109, 97, 112]⟩))) (.bin .eql (.len false (.var 3)) (.const (.int .i64 1))) (.const (.bool false))) (.bin .geq (.ld none (.ixSl 1 (.var 3) (.const (.int .i64 0)))) (.const (.int .i64 0))) (.const (.bool false))), (.pick (.pick (.bin .eql (.ld none (.ixSl 1 (.var 1) (.const (.int .i64 0)))) (.const (.string ⟨#[109, 97, 112]⟩))) (.bin .eql (.len false (.var 3)) (.const (.int .i64 1))) (.const (.bool false))) (.bin .geq (.ld none (.ixSl 1 (.var 3) (.const (.int .i64 0)))) (.const (.int .i64 0))) (.const (.bool false))), (.pick (.pick (.bin .eql (.ld none (.ixSl 1 (.var 1) (.const (.int .i64 0)))) (.const (.string ⟨#[109, 97, 112]⟩))) (.bin .eql (.len false (.var 3)) (.const (.int .i64 1))) (.const (.bool false))) (.ld none (.ixSl 1 (.var 3) (.const (.int .i64 0)))) (.const (.bool false))), (.pick (.pick (.bin .eql (.ld none (.ixSl 1 (.var 1) (.const (.int .i64 0)))) (.const (.string ⟨#[109, 97, 112]⟩))) (.bin .eql (.len false (.var 3)) (.const (.int .i64 1))) (.const (.bool false))) (.ixSl 1 (.var 3) (.const (.int .i64 0))) (.const (.bool false))), (.pick (.pick (.bin .eql (.ld none (.ixSl 1 (.var 1) (.const (.int .i64 0)))) (.const (.string ⟨#[109, 97, 112]⟩))) (.bin .eql (.len false (.var 3)) (.const (.int .i64 1))) (.const (.bool false))) (.var 3) (.const (.bool false))), (.pick (.bin .eql (.ld none (.ixSl 1 (.var 1) (.const (.int .i64 0)))) (.const (.string ⟨#[109, 97, 112]⟩))) (.bin .eql (.len false (.var 3)) (.const (.int .i64 1))) (.const (.bool false))), (.pick (.bin .eql (.ld none (.ixSl 1 (.var 1) (.const (.int .i64 0)))) (.const (.string ⟨#[109, 97, 112]⟩))) (.bin .eql (.len false (.var 3)) (.const (.int .i64 1))) (.const (.bool false))), (.pick (.bin .eql (.ld none (.ixSl 1 (.var 1) (.const (.int .i64 0)))) (.const (.string ⟨#[109, 97, 112]⟩))) (.bin .eql (.len false (.var 3)) (.const (.int .i64 1))) (.const (.bool false))), (.pick (.bin .eql (.ld none (.ixSl 1 (.var 1) (.const (.int .i64 0)))) (.const (.string ⟨#[109, 97, 112]⟩))) (.len false (.var 3)) (.const (.bool false))), (.pick (.bin .eql (.ld none (.ixSl 1 (.var 1) (.const (.int .i64 0)))) (.const (.string ⟨#[109, 97, 112]⟩))) (.var 3) (.const (.bool false))), (.bin .eql (.ld none (.ixSl 1 (.var 1) (.const (.int .i64 0)))) (.const (.string ⟨#[109, 97, 112]⟩))), (.bin .eql (.ld none (.ixSl 1 (.var 1) (.const (.int .i64 0)))) (.const (.string ⟨#[109, 97, 112]⟩)))])
      (.cond (.pick (.pick (.pick (.bin .eql (.ld none (.ixSl 1 (.var 1) (.const (.int .i64 0)))) (.const (.string ⟨#[109, 97, 112]⟩))) (.bin .eql (.len false (.var 3)) (.const (.int .i64 1))) (.const (.bool false))) (.bin .geq (.ld none (.ixSl 1 (.var 3) (.const (.int .i64 0)))) (.const (.int .i64 0))) (.const (.bool false))) (.bin .lss (.ld none (.ixSl 1 (.var 3) (.const (.int .i64 0)))) (.const (.int .i64 4))) (.const (.bool false)))
        (.seq
         (.seq
          .draw
         (.seq
          (.set 8 (.conv .i32 (.ld none (.ixSl 1 (.var 3) (.const (.int .i64 0))))))
         (.seq
          (.store 1 (.offp 2 (.var 7)) (.const (.int .u8 1)) [(.ld none (.ixSl 1 (.var 3) (.const (.int .i64 0))))])
         (.store 1 (.offp 4 (.var 7)) (.var 8) []))))
        (.seq
         (.seq
          (.row (some 9) 39 2 (.upd 5 5 (.upd 0 5 (.const (.agg #[(.int .u8 0), (.int .u8 0), (.int .u8 0), (.int .i16 0), (.int .i32 0), (.int .u8 0), (.int .u8 0), (.int .u8 0), (.int .i16 0), (.int .i32 0)])) (.ld (some 5) (.var 7))) (.const (.agg #[(.int .u8 0), (.int .u8 0), (.int .u8 0), (.int .i16 0), (.int .i32 0)]))) [])
         (.seq
          (.row (some 10) 23 1 (.upd 0 1 (.const (.agg #[(.slice none 0 0)])) (.var 9)) [])
         (.set 4 (.var 10))))
        .ret))
        .skip))
     (.seq
      (.set 11 (.const (.int .u64 0)))
     (.seq
      (.seq
       (.chk [(.pick (.pick (.bin .neq (.ld none (.ixSl 1 (.var 1) (.const (.int .i64 0)))) (.const (.string ⟨#[119, 105, 100, 101]⟩))) (.const (.bool true)) (.bin .neq (.len false (.var 1)) (.const (.int .i64 3)))) (.const (.bool true)) (.bin .gtr (.len true (.ld none (.ixSl 1 (.var 1) (.const (.int .i64 2))))) (.const (.int .i64 20)))), (.pick (.pick (.bin .neq (.ld none (.ixSl 1 (.var 1) (.const (.int .i64 0)))) (.const (.string ⟨#[119, 105, 100, 101]⟩))) (.const (.bool true)) (.bin .neq (.len false (.var 1)) (.const (.int .i64 3)))) (.const (.bool false)) (.bin .gtr (.len true (.ld none (.ixSl 1 (.var 1) (.const (.int .i64 2))))) (.const (.int .i64 20)))), (.pick (.pick (.bin .neq (.ld none (.ixSl 1 (.var 1) (.const (.int .i64 0)))) (.const (.string ⟨#[119, 105, 100, 101]⟩))) (.const (.bool true)) (.bin .neq (.len false (.var 1)) (.const (.int .i64 3)))) (.const (.bool false)) (.len true (.ld none (.ixSl 1 (.var 1) (.const (.int .i64 2)))))), (.pick (.pick (.bin .neq (.ld none (.ixSl 1 (.var 1) (.const (.int .i64 0)))) (.const (.string ⟨#[119, 105, 100, 101]⟩))) (.const (.bool true)) (.bin .neq (.len false (.var 1)) (.const (.int .i64 3)))) (.const (.bool false)) (.ld none (.ixSl 1 (.var 1) (.const (.int .i64 2))))), (.pick (.pick (.bin .neq (.ld none (.ixSl 1 (.var 1) (.const (.int .i64 0)))) (.const (.string ⟨#[119, 105, 100, 101]⟩))) (.const (.bool true)) (.bin .neq (.len false (.var 1)) (.const (.int .i64 3)))) (.const (.bool false)) (.ixSl 1 (.var 1) (.const (.int .i64 2)))), (.pick (.pick (.bin .neq (.ld none (.ixSl 1 (.var 1) (.const (.int .i64 0)))) (.const (.string ⟨#[119, 105, 100, 101]⟩))) (.const (.bool true)) (.bin .neq (.len false (.var 1)) (.const (.int .i64 3)))) (.const (.bool false)) (.var 1)), (.pick (.bin .neq (.ld none (.ixSl 1 (.var 1) (.const (.int .i64 0)))) (.const (.string ⟨#[119, 105, 100, 101]⟩))) (.const (.bool true)) (.bin .neq (.len false (.var 1)) (.const (.int .i64 3)))), (.pick (.bin .neq (.ld none (.ixSl 1 (.var 1) (.const (.int .i64 0)))) (.const (.string ⟨#[119, 105, 100, 101]⟩))) (.const (.bool true)) (.bin .neq (.len false (.var 1)) (.const (.int .i64 3)))), (.pick (.bin .neq (.ld none (.ixSl 1 (.var 1) (.const (.int .i64 0)))) (.const (.string ⟨#[119, 105, 100, 101]⟩))) (.const (.bool false)) (.bin .neq (.len false (.var 1)) (.const (.int .i64 3)))), (.pick (.bin .neq (.ld none (.ixSl 1 (.var 1) (.const (.int .i64 0)))) (.const (.string ⟨#[119, 105, 100, 101]⟩))) (.const (.bool false)) (.len false (.var 1))), (.pick (.bin .neq (.ld none (.ixSl 1 (.var 1) (.const (.int .i64 0)))) (.const (.string ⟨#[119, 105, 100, 101]⟩))) (.const (.bool false)) (.var 1)), (.bin .neq (.ld none (.ixSl 1 (.var 1) (.const (.int .i64 0)))) (.const (.string ⟨#[119, 105, 100, 101]⟩))), (.bin .neq (.ld none (.ixSl 1 (.var 1) (.const (.int .i64 0)))) (.const (.string ⟨#[119, 105, 100, 101]⟩)))])
      (.cond (.pick (.pick (.bin .neq (.ld none (.ixSl 1 (.var 1) (.const (.int .i64 0)))) (.const (.string ⟨#[119, 105, 100, 101]⟩))) (.const (.bool true)) (.bin .neq (.len false (.var 1)) (.const (.int .i64 3)))) (.const (.bool true)) (.bin .gtr (.len true (.ld none (.ixSl 1 (.var 1) (.const (.int .i64 2))))) (.const (.int .i64 20))))
        (.seq
         (.set 4 (.const (.slice none 0 0)))
        .ret)
        .skip))
     (.seq
      (.seq
       (.set 12 (.const (.int .i64 0)))
      (.block 0
        (.loop [1, 7, 11, 12]
          (.seq
           (.cond (.bin .lss (.var 12) (.len true (.ld none (.ixSl 1 (.var 1) (.const (.int .i64 2))))))
             .skip
             (.exit 0))
          (.seq
           (.block 1
             (.set 11 (.bin .add (.bin .mul (.const (.int .u64 10)) (.var 11)) (.conv .u64 (.bin .sub (.idxStr (.ld none (.ixSl 1 (.var 1) (.const (.int .i64 2)))) (.var 12)) (.const (.int .u8 48)))))))
          (.set 12 (.bin .add (.var 12) (.const (.int .i64 1)))))))))
     (.seq
      (.store 1 (.offp 4 (.var 7)) (.conv .i32 (.conv .u32 (.var 11))) [])
     (.seq
      (.seq
       (.chk [(.upd 4 1 (.const (.agg #[(.int .u8 0), (.int .u8 0), (.int .u8 0), (.int .i16 0), (.int .i32 0)])) (.conv .i32 (.conv .u32 (.bin .shr (.var 11) (.const (.int .u64 32))))))])
      (.seq
       (.row (some 13) 39 2 (.upd 5 5 (.upd 0 5 (.const (.agg #[(.int .u8 0), (.int .u8 0), (.int .u8 0), (.int .i16 0), (.int .i32 0), (.int .u8 0), (.int .u8 0), (.int .u8 0), (.int .i16 0), (.int .i32 0)])) (.ld (some 5) (.var 7))) (.upd 4 1 (.const (.agg #[(.int .u8 0), (.int .u8 0), (.int .u8 0), (.int .i16 0), (.int .i32 0)])) (.conv .i32 (.conv .u32 (.bin .shr (.var 11) (.const (.int .u64 32))))))) [])
      (.seq
       (.row (some 14) 23 1 (.upd 0 1 (.const (.agg #[(.slice none 0 0)])) (.var 13)) [])
      (.set 4 (.var 14)))))
     .ret))))))
     .skip)
  (.seq
   (.set 15 (.const (.slice none 0 0)))
  (.seq
   (.seq
    (.set 16 (.const (.int .i64 0)))
   (.set 17 (.const (.int .i64 0))))
  (.seq
   (.block 2
     (.seq
      (.set 18 (.pick (.bin .eql (.len false (.var 3)) (.const (.int .i64 2))) (.bin .eql (.ld none (.offp 0 (.var 6))) (.const (.int .i64 7))) (.const (.bool false))))
     (.cond (.var 18)
       (.seq
        .draw
       (.seq
        (.chk [(.ld none (.ixSl 1 (.var 3) (.const (.int .i64 1))))])
       (.seq
        (.set 17 (.ld none (.ixSl 1 (.var 3) (.const (.int .i64 0)))))
       (.set 16 (.ld none (.ixSl 1 (.var 3) (.const (.int .i64 1))))))))
       (.seq
        (.set 19 (.bin .eql (.len false (.var 3)) (.const (.int .i64 2))))
       (.cond (.var 19)
         (.seq
          .draw
         (.seq
          (.chk [(.ld none (.ixSl 1 (.var 3) (.const (.int .i64 1))))])
         (.seq
          (.set 16 (.ld none (.ixSl 1 (.var 3) (.const (.int .i64 0)))))
         (.set 17 (.ld none (.ixSl 1 (.var 3) (.const (.int .i64 1))))))))
         (.seq
          (.set 20 (.pick (.bin .eql (.len false (.var 3)) (.const (.int .i64 1))) (.pick (.bin .eql (.ld none (.offp 0 (.var 6))) (.const (.int .i64 1))) (.const (.bool true)) (.bin .eql (.ld none (.offp 0 (.var 6))) (.const (.int .i64 4)))) (.const (.bool false))))
         (.cond (.var 20)
           (.set 16 (.ld none (.ixSl 1 (.var 3) (.const (.int .i64 0)))))
           (.seq
            (.set 21 (.bin .eql (.len false (.var 3)) (.const (.int .i64 1))))
           (.cond (.var 21)
             (.set 17 (.ld none (.ixSl 1 (.var 3) (.const (.int .i64 0)))))
             .skip)))))))))
  (.seq
   (.cond (.pick (.pick (.pick (.bin .lss (.var 16) (.const (.int .i64 (-2147483648)))) (.const (.bool true)) (.bin .geq (.var 16) (.const (.int .i64 2147483648)))) (.const (.bool true)) (.bin .lss (.var 17) (.const (.int .i64 (-32768))))) (.const (.bool true)) (.bin .geq (.var 17) (.const (.int .i64 32768))))
     (.seq
      (.set 4 (.const (.slice none 0 0)))
     .ret)
     .skip)
  (.seq
   (.seq
    (.chk [(.conv .i32 (.var 16))])
   (.seq
    (.set 22 (.conv .i16 (.var 17)))
   (.seq
    (.store 1 (.offp 4 (.var 7)) (.conv .i32 (.var 16)) [])
   (.store 1 (.offp 3 (.var 7)) (.var 22) []))))
  (.seq
   (.seq
    (.chk [(.var 15)])
   (.seq
    (.row (some 23) 39 1 (.upd 0 5 (.const (.agg #[(.int .u8 0), (.int .u8 0), (.int .u8 0), (.int .i16 0), (.int .i32 0)])) (.ld (some 5) (.var 7))) [])
   (.seq
    (.row (some 24) 23 1 (.upd 0 1 (.const (.agg #[(.slice none 0 0)])) (.var 23)) [])
   (.seq
    (.bi (some 25) .append [48, 48] 48 [(.var 15), (.var 24)] [])
   (.set 15 (.var 25))))))
  (.seq
   (.seq
    (.seq
     (.row (some 26) 21 3 (.upd 2 1 (.upd 1 1 (.upd 0 1 (.const (.agg #[(.int .i32 0), (.int .i32 0), (.int .i32 0)])) (.const (.int .i32 64))) (.const (.int .i32 80))) (.const (.int .i32 160))) [])
    (.seq
     (.set 28 (.len false (.var 26)))
    (.set 27 (.const (.int .i64 0)))))
   (.block 3
     (.loop [6, 7, 15, 26, 27, 28]
       (.seq
        (.cond (.bin .lss (.var 27) (.var 28))
          .skip
          (.exit 3))
       (.seq
        (.block 4
          (.seq
           (.set 29 (.ld none (.ixSl 1 (.var 26) (.var 27))))
          (.cond (.bin .eql (.ld none (.offp 0 (.var 6))) (.const (.int .i64 8)))
            (.seq
             (.seq
              (.set 31 (.ld (some 5) (.var 7)))
             (.seq
              (.new (some 30) 39 (.const (.agg #[(.int .u8 0), (.int .u8 0), (.int .u8 0), (.int .i16 0), (.int .i32 0)])) [])
             (.store 5 (.var 30) (.var 31) [])))
            (.seq
             (.store 1 (.offp 4 (.var 30)) (.var 29) [])
            (.seq
             (.chk [(.var 15)])
            (.seq
             (.row (some 32) 39 1 (.upd 0 5 (.const (.agg #[(.int .u8 0), (.int .u8 0), (.int .u8 0), (.int .i16 0), (.int .i32 0)])) (.ld (some 5) (.var 30))) [])
            (.seq
             (.row (some 33) 23 1 (.upd 0 1 (.const (.agg #[(.slice none 0 0)])) (.var 32)) [])
            (.seq
             (.bi (some 34) .append [48, 48] 48 [(.var 15), (.var 33)] [])
            (.set 15 (.var 34))))))))
            .skip)))
       (.set 27 (.bin .add (.var 27) (.const (.int .i64 1)))))))))
  (.seq
   (.set 4 (.var 15))
  .ret)))))))))))))))
abbrev v_tipstaffref23_fill : List Nat := [0, 1, 2, 3, 8, 20, 9, 10, 72, 77, 78, 11, 12, 123, 124, 13, 14, 15, 125, 140, 150, 167, 191, 196, 197, 198, 199, 201, 200, 17, 18, 208, 213, 214, 215]
abbrev k_tipstaffref23_fill : List (List Nat) := [[1, 7, 11, 12], [6, 7, 15, 26, 27, 28]]
abbrev r_tipstaffref23_fill : List Ex := [(.var 4)]
theorem ok_tipstaffref23_fill : compile Tryz.prog Tryz.f16 v_tipstaffref23_fill k_tipstaffref23_fill = some (c_tipstaffref23_fill, r_tipstaffref23_fill) := by kernel_rfl

/- tipstaff/tipstaffref23.Own -/
def c_tipstaffref23_Own : Cmd :=
  (.seq
   (.set 1 (.const (.bool false)))
  (.seq
   (.cond (.pick (.bin .eql (.len false (.var 0)) (.const (.int .i64 0))) (.const (.bool true)) (.bin .gtr (.len false (.var 0)) (.const (.int .i64 256))))
     (.seq
      (.set 1 (.const (.bool false)))
     .ret)
     .skip)
  (.seq
   (.seq
    (.row (some 2) 39 0 (.const (.agg #[])) [])
   (.seq
    (.bi (some 3) .append [23, 23] 23 [(.var 2), (.var 0)] [])
   (.set 4 (.var 3))))
  (.seq
   (.seq
    (.set 5 (.const (.int .i64 0)))
   (.block 0
     (.loop [4, 5]
       (.seq
        (.cond (.bin .lss (.var 5) (.len false (.var 4)))
          .skip
          (.exit 0))
       (.seq
        (.block 1
          (.seq
           (.seq
            (.call (some 6) 27 [(.ld none (.offp 0 (.ixSl 5 (.var 4) (.var 5))))] [])
           (.set 7 (.part none 0 (.var 6))))
          (.cond (.pick (.bin .eql (.var 7) (.const (.int .i64 2))) (.const (.bool true)) (.bin .eql (.var 7) (.const (.int .i64 3))))
            (.store 1 (.offp 3 (.ixSl 5 (.var 4) (.var 5))) (.const (.int .i16 (-1))) [])
            .skip)))
       (.set 5 (.bin .add (.var 5) (.const (.int .i64 1)))))))))
  (.seq
   (.seq
    (.call (some 8) 27 [(.ld none (.offp 0 (.ixSl 5 (.var 4) (.bin .sub (.len false (.var 4)) (.const (.int .i64 1))))))] [])
   (.set 9 (.part none 0 (.var 8))))
  (.seq
   (.cond (.pick (.bin .neq (.var 9) (.const (.int .i64 3))) (.bin .neq (.var 9) (.const (.int .i64 5))) (.const (.bool false)))
     (.seq
      (.chk [(.upd 0 1 (.const (.agg #[(.int .u8 0), (.int .u8 0), (.int .u8 0), (.int .i16 0), (.int .i32 0)])) (.const (.int .u8 149))), (.var 4)])
     (.seq
      (.row (some 10) 39 1 (.upd 0 5 (.const (.agg #[(.int .u8 0), (.int .u8 0), (.int .u8 0), (.int .i16 0), (.int .i32 0)])) (.upd 0 1 (.const (.agg #[(.int .u8 0), (.int .u8 0), (.int .u8 0), (.int .i16 0), (.int .i32 0)])) (.const (.int .u8 149)))) [])
     (.seq
      (.bi (some 11) .append [23, 23] 23 [(.var 4), (.var 10)] [])
     (.set 4 (.var 11)))))
     .skip)
  (.seq
   (.cond (.bin .gtr (.len false (.var 4)) (.const (.int .i64 256)))
     (.seq
      (.seq
       (.call (some 12) 28 [(.slSl 5 (.var 4) (.const (.int .i64 0)) (.const (.int .i64 256)))] [])
      (.seq
       (.chk [(.proj 1 (.var 12))])
      (.seq
       (.set 13 (.proj 0 (.var 12)))
      (.set 14 (.proj 1 (.var 12))))))
     (.seq
      (.seq
       (.call (some 15) 28 [(.slSl 5 (.var 4) (.const (.int .i64 1)) (.len false (.var 4)))] [])
      (.seq
       (.chk [(.proj 1 (.var 15))])
      (.seq
       (.set 16 (.proj 0 (.var 15)))
      (.set 17 (.proj 1 (.var 15))))))
     (.seq
      (.set 1 (.pick (.pick (.bin .eql (.var 14) (.const (.int .i64 0))) (.const (.bool true)) (.bin .neq (.var 9) (.const (.int .i64 3)))) (.bin .eql (.var 17) (.const (.int .i64 0))) (.const (.bool false))))
     .ret)))
     .skip)
  (.seq
   (.seq
    (.call (some 18) 28 [(.var 4)] [])
   (.seq
    (.chk [(.proj 1 (.var 18))])
   (.seq
    (.set 19 (.proj 0 (.var 18)))
   (.set 20 (.proj 1 (.var 18))))))
  (.seq
   (.set 1 (.bin .eql (.var 20) (.const (.int .i64 0))))
  .ret)))))))))
abbrev v_tipstaffref23_Own : List Nat := [0, 2, 21, 23, 3, 4, 35, 5, 54, 6, 64, 65, 72, 7, 8, 78, 9, 10, 93, 11, 12]
abbrev k_tipstaffref23_Own : List (List Nat) := [[4, 5]]
abbrev r_tipstaffref23_Own : List Ex := [(.var 1)]
theorem ok_tipstaffref23_Own : compile Tryz.prog Tryz.f17 v_tipstaffref23_Own k_tipstaffref23_Own = some (c_tipstaffref23_Own, r_tipstaffref23_Own) := by kernel_rfl

/- tipstaff/tipstaffref23.Line -/
def c_tipstaffref23_Line : Cmd :=
  (.seq
   (.seq
    (.new (some 3) 39 (.var 0) [])
   (.seq
    (.new (some 4) 39 (.var 1) [])
   (.set 2 (.const (.string ⟨#[]⟩)))))
  (.seq
   (.seq
    (.call (some 5) 27 [(.ld none (.offp 0 (.var 3)))] [])
   (.seq
    (.new (some 6) 66 (.const (.agg #[(.int .i64 0), (.int .i64 0), (.int .i64 0), (.bool false), (.bool false)])) [])
   (.store 5 (.var 6) (.var 5) [])))
  (.seq
   (.seq
    (.call (some 7) 29 [(.conv .i64 (.ld none (.offp 4 (.var 3))))] [])
   (.set 8 (.var 7)))
  (.seq
   (.cond (.ld none (.offp 4 (.var 6)))
     (.seq
      (.call (some 9) 30 [(.ld none (.offp 2 (.var 3)))] [])
     (.set 8 (.var 9)))
     .skip)
  (.seq
   (.set 10 (.const (.string ⟨#[51, 50]⟩)))
  (.seq
   (.cond (.ld none (.offp 3 (.var 6)))
     (.set 10 (.const (.string ⟨#[]⟩)))
     .skip)
  (.seq
   (.seq
    (.call (some 11) 31 [(.conv .u64 (.ld none (.offp 2 (.var 6))))] [])
   (.set 12 (.var 11)))
  (.seq
   (.seq
    (.set 13 (.ld none (.offp 0 (.var 6))))
   (.block 0
     (.seq
      (.set 14 (.bin .eql (.var 13) (.const (.int .i64 1))))
     (.cond (.var 14)
       (.seq
        (.seq
         .draw
        (.seq
         (.set 16 (.ld none (.offp 1 (.var 6))))
        (.seq
         (.chk [(.var 10)])
        (.seq
         (.set 17 (.ld none (.offp 1 (.var 3))))
        (.alt
         (.seq
          (.row (some 15) 9 13 (.upd 12 1 (.upd 11 1 (.upd 10 1 (.upd 9 1 (.upd 8 1 (.upd 7 1 (.upd 6 1 (.upd 5 1 (.upd 4 1 (.upd 3 1 (.upd 2 1 (.upd 1 1 (.upd 0 1 (.const (.agg (Array.replicate 13 (.string ⟨#[]⟩)))) (.const (.string ⟨#[97, 100, 100]⟩))) (.const (.string ⟨#[115, 117, 98]⟩))) (.const (.string ⟨#[109, 117, 108]⟩))) (.const (.string ⟨#[100, 105, 118]⟩))) (.const (.string ⟨#[111, 114]⟩))) (.const (.string ⟨#[97, 110, 100]⟩))) (.const (.string ⟨#[108, 115, 104]⟩))) (.const (.string ⟨#[114, 115, 104]⟩))) (.const (.string ⟨#[110, 101, 103]⟩))) (.const (.string ⟨#[109, 111, 100]⟩))) (.const (.string ⟨#[120, 111, 114]⟩))) (.const (.string ⟨#[109, 111, 118]⟩))) (.const (.string ⟨#[97, 114, 115, 104]⟩))) [(.ld none (.offp 1 (.var 3))), (.ld none (.offp 1 (.var 6)))])
         (.seq
          (.set 19 (.bin .add (.bin .add (.ld none (.ixSl 1 (.var 15) (.var 16))) (.var 10)) (.const (.string ⟨#[32]⟩))))
         (.seq
          (.call (some 18) 30 [(.var 17)] [(.ld none (.ixSl 1 (.var 15) (.var 16))), (.ld none (.offp 1 (.var 6)))])
         (.set 20 (.bin .add (.var 19) (.var 18))))))
        (.seq
         (.call (some 18) 30 [(.var 17)] [(.ld none (.offp 1 (.var 3))), (.ld none (.offp 1 (.var 6)))])
        (.seq
         (.row (some 15) 9 13 (.upd 12 1 (.upd 11 1 (.upd 10 1 (.upd 9 1 (.upd 8 1 (.upd 7 1 (.upd 6 1 (.upd 5 1 (.upd 4 1 (.upd 3 1 (.upd 2 1 (.upd 1 1 (.upd 0 1 (.const (.agg (Array.replicate 13 (.string ⟨#[]⟩)))) (.const (.string ⟨#[97, 100, 100]⟩))) (.const (.string ⟨#[115, 117, 98]⟩))) (.const (.string ⟨#[109, 117, 108]⟩))) (.const (.string ⟨#[100, 105, 118]⟩))) (.const (.string ⟨#[111, 114]⟩))) (.const (.string ⟨#[97, 110, 100]⟩))) (.const (.string ⟨#[108, 115, 104]⟩))) (.const (.string ⟨#[114, 115, 104]⟩))) (.const (.string ⟨#[110, 101, 103]⟩))) (.const (.string ⟨#[109, 111, 100]⟩))) (.const (.string ⟨#[120, 111, 114]⟩))) (.const (.string ⟨#[109, 111, 118]⟩))) (.const (.string ⟨#[97, 114, 115, 104]⟩))) [(.ld none (.offp 1 (.var 3))), (.ld none (.offp 1 (.var 6)))])
        (.seq
         (.set 19 (.bin .add (.bin .add (.ld none (.ixSl 1 (.var 15) (.var 16))) (.var 10)) (.const (.string ⟨#[32]⟩))))
        (.set 20 (.bin .add (.var 19) (.var 18)))))))))))
       (.seq
        (.cond (.bin .eql (.ld none (.offp 1 (.var 6))) (.const (.int .i64 8)))
          (.seq
           (.set 2 (.var 20))
          .ret)
          .skip)
       (.seq
        (.seq
         (.chk [(.bin .add (.bin .add (.var 20) (.const (.string ⟨#[32]⟩))) (.var 8)), (.bin .add (.var 20) (.const (.string ⟨#[32]⟩)))])
        (.set 2 (.bin .add (.bin .add (.var 20) (.const (.string ⟨#[32]⟩))) (.var 8))))
       .ret)))
       (.seq
        (.set 21 (.bin .eql (.var 13) (.const (.int .i64 2))))
       (.cond (.var 21)
         (.seq
          (.seq
           .draw
          (.seq
           (.set 23 (.ld none (.offp 1 (.var 6))))
          (.seq
           (.chk [(.var 10)])
          (.seq
           (.set 24 (.ld none (.offp 1 (.var 3))))
          (.seq
           (.chk [(.var 8)])
          (.seq
           (.set 27 (.ld none (.offp 3 (.var 3))))
          (.alt
           (.seq
            (.row (some 22) 9 14 (.upd 13 1 (.upd 12 1 (.upd 11 1 (.upd 10 1 (.upd 9 1 (.upd 8 1 (.upd 7 1 (.upd 6 1 (.upd 5 1 (.upd 4 1 (.upd 3 1 (.upd 2 1 (.upd 1 1 (.upd 0 1 (.const (.agg (Array.replicate 14 (.string ⟨#[]⟩)))) (.const (.string ⟨#[]⟩))) (.const (.string ⟨#[106, 101, 113]⟩))) (.const (.string ⟨#[106, 103, 116]⟩))) (.const (.string ⟨#[106, 103, 101]⟩))) (.const (.string ⟨#[106, 115, 101, 116]⟩))) (.const (.string ⟨#[106, 110, 101]⟩))) (.const (.string ⟨#[106, 115, 103, 116]⟩))) (.const (.string ⟨#[106, 115, 103, 101]⟩))) (.const (.string ⟨#[]⟩))) (.const (.string ⟨#[]⟩))) (.const (.string ⟨#[106, 108, 116]⟩))) (.const (.string ⟨#[106, 108, 101]⟩))) (.const (.string ⟨#[106, 115, 108, 116]⟩))) (.const (.string ⟨#[106, 115, 108, 101]⟩))) [(.ld none (.offp 3 (.var 3))), (.ld none (.offp 1 (.var 3))), (.ld none (.offp 1 (.var 6)))])
           (.seq
            (.set 26 (.bin .add (.bin .add (.ld none (.ixSl 1 (.var 22) (.var 23))) (.var 10)) (.const (.string ⟨#[32]⟩))))
           (.seq
            (.call (some 25) 30 [(.var 24)] [(.ld none (.ixSl 1 (.var 22) (.var 23))), (.ld none (.offp 3 (.var 3))), (.ld none (.offp 1 (.var 6)))])
           (.seq
            (.chk [(.bin .add (.bin .add (.bin .add (.var 26) (.var 25)) (.const (.string ⟨#[32]⟩))) (.var 8)), (.bin .add (.bin .add (.var 26) (.var 25)) (.const (.string ⟨#[32]⟩)))])
           (.seq
            (.set 29 (.bin .add (.bin .add (.bin .add (.bin .add (.var 26) (.var 25)) (.const (.string ⟨#[32]⟩))) (.var 8)) (.const (.string ⟨#[32]⟩))))
           (.seq
            (.call (some 28) 32 [(.var 27)] [(.ld none (.ixSl 1 (.var 22) (.var 23))), (.ld none (.offp 1 (.var 6)))])
           (.set 2 (.bin .add (.var 29) (.var 28)))))))))
          (.seq
           (.call (some 25) 30 [(.var 24)] [(.ld none (.offp 3 (.var 3))), (.ld none (.offp 1 (.var 3))), (.ld none (.offp 1 (.var 6)))])
          (.alt
           (.seq
            (.row (some 22) 9 14 (.upd 13 1 (.upd 12 1 (.upd 11 1 (.upd 10 1 (.upd 9 1 (.upd 8 1 (.upd 7 1 (.upd 6 1 (.upd 5 1 (.upd 4 1 (.upd 3 1 (.upd 2 1 (.upd 1 1 (.upd 0 1 (.const (.agg (Array.replicate 14 (.string ⟨#[]⟩)))) (.const (.string ⟨#[]⟩))) (.const (.string ⟨#[106, 101, 113]⟩))) (.const (.string ⟨#[106, 103, 116]⟩))) (.const (.string ⟨#[106, 103, 101]⟩))) (.const (.string ⟨#[106, 115, 101, 116]⟩))) (.const (.string ⟨#[106, 110, 101]⟩))) (.const (.string ⟨#[106, 115, 103, 116]⟩))) (.const (.string ⟨#[106, 115, 103, 101]⟩))) (.const (.string ⟨#[]⟩))) (.const (.string ⟨#[]⟩))) (.const (.string ⟨#[106, 108, 116]⟩))) (.const (.string ⟨#[106, 108, 101]⟩))) (.const (.string ⟨#[106, 115, 108, 116]⟩))) (.const (.string ⟨#[106, 115, 108, 101]⟩))) [(.ld none (.offp 3 (.var 3))), (.ld none (.offp 1 (.var 3))), (.ld none (.offp 1 (.var 6)))])
           (.seq
            (.set 26 (.bin .add (.bin .add (.ld none (.ixSl 1 (.var 22) (.var 23))) (.var 10)) (.const (.string ⟨#[32]⟩))))
           (.seq
            (.chk [(.bin .add (.bin .add (.bin .add (.var 26) (.var 25)) (.const (.string ⟨#[32]⟩))) (.var 8)), (.bin .add (.bin .add (.var 26) (.var 25)) (.const (.string ⟨#[32]⟩)))])
           (.seq
            (.set 29 (.bin .add (.bin .add (.bin .add (.bin .add (.var 26) (.var 25)) (.const (.string ⟨#[32]⟩))) (.var 8)) (.const (.string ⟨#[32]⟩))))
           (.seq
            (.call (some 28) 32 [(.var 27)] [(.ld none (.ixSl 1 (.var 22) (.var 23))), (.ld none (.offp 1 (.var 6)))])
           (.set 2 (.bin .add (.var 29) (.var 28))))))))
          (.seq
           (.call (some 28) 32 [(.var 27)] [(.ld none (.offp 3 (.var 3))), (.ld none (.offp 1 (.var 3))), (.ld none (.offp 1 (.var 6)))])
          (.seq
           (.row (some 22) 9 14 (.upd 13 1 (.upd 12 1 (.upd 11 1 (.upd 10 1 (.upd 9 1 (.upd 8 1 (.upd 7 1 (.upd 6 1 (.upd 5 1 (.upd 4 1 (.upd 3 1 (.upd 2 1 (.upd 1 1 (.upd 0 1 (.const (.agg (Array.replicate 14 (.string ⟨#[]⟩)))) (.const (.string ⟨#[]⟩))) (.const (.string ⟨#[106, 101, 113]⟩))) (.const (.string ⟨#[106, 103, 116]⟩))) (.const (.string ⟨#[106, 103, 101]⟩))) (.const (.string ⟨#[106, 115, 101, 116]⟩))) (.const (.string ⟨#[106, 110, 101]⟩))) (.const (.string ⟨#[106, 115, 103, 116]⟩))) (.const (.string ⟨#[106, 115, 103, 101]⟩))) (.const (.string ⟨#[]⟩))) (.const (.string ⟨#[]⟩))) (.const (.string ⟨#[106, 108, 116]⟩))) (.const (.string ⟨#[106, 108, 101]⟩))) (.const (.string ⟨#[106, 115, 108, 116]⟩))) (.const (.string ⟨#[106, 115, 108, 101]⟩))) [(.ld none (.offp 3 (.var 3))), (.ld none (.offp 1 (.var 3))), (.ld none (.offp 1 (.var 6)))])
          (.seq
           (.set 26 (.bin .add (.bin .add (.ld none (.ixSl 1 (.var 22) (.var 23))) (.var 10)) (.const (.string ⟨#[32]⟩))))
          (.seq
           (.chk [(.bin .add (.bin .add (.bin .add (.var 26) (.var 25)) (.const (.string ⟨#[32]⟩))) (.var 8)), (.bin .add (.bin .add (.var 26) (.var 25)) (.const (.string ⟨#[32]⟩)))])
          (.seq
           (.set 29 (.bin .add (.bin .add (.bin .add (.bin .add (.var 26) (.var 25)) (.const (.string ⟨#[32]⟩))) (.var 8)) (.const (.string ⟨#[32]⟩))))
          (.set 2 (.bin .add (.var 29) (.var 28)))))))))))))))))
         .ret)
         (.seq
          (.set 30 (.bin .eql (.var 13) (.const (.int .i64 3))))
         (.cond (.var 30)
           (.seq
            (.seq
             (.call (some 31) 32 [(.ld none (.offp 3 (.var 3)))] [])
            (.seq
             (.chk [(.bin .add (.const (.string ⟨#[106, 97, 32]⟩)) (.var 31))])
            (.set 2 (.bin .add (.const (.string ⟨#[106, 97, 32]⟩)) (.var 31)))))
           .ret)
           (.seq
            (.set 32 (.bin .eql (.var 13) (.const (.int .i64 4))))
           (.cond (.var 32)
             (.seq
              (.seq
               (.call (some 33) 29 [(.conv .i64 (.ld none (.offp 4 (.var 3))))] [])
              (.seq
               (.chk [(.bin .add (.const (.string ⟨#[99, 97, 108, 108, 32]⟩)) (.var 33))])
              (.set 2 (.bin .add (.const (.string ⟨#[99, 97, 108, 108, 32]⟩)) (.var 33)))))
             .ret)
             (.seq
              (.set 34 (.bin .eql (.var 13) (.const (.int .i64 5))))
             (.cond (.var 34)
               (.seq
                (.set 2 (.const (.string ⟨#[101, 120, 105, 116]⟩)))
               .ret)
               (.seq
                (.set 35 (.bin .eql (.var 13) (.const (.int .i64 6))))
               (.cond (.var 35)
                 (.seq
                  (.seq
                   .draw
                  (.seq
                   (.chk [(.ld none (.offp 1 (.var 3))), (.bin .add (.bin .add (.const (.string ⟨#[108, 100]⟩)) (.var 12)) (.const (.string ⟨#[32]⟩))), (.bin .add (.const (.string ⟨#[108, 100]⟩)) (.var 12))])
                  (.seq
                   (.set 37 (.ld none (.offp 2 (.var 3))))
                  (.seq
                   (.set 39 (.ld none (.offp 3 (.var 3))))
                  (.seq
                   (.call (some 36) 30 [(.ld none (.offp 1 (.var 3)))] [(.ld none (.offp 3 (.var 3))), (.ld none (.offp 2 (.var 3)))])
                  (.seq
                   (.chk [(.bin .add (.bin .add (.bin .add (.bin .add (.const (.string ⟨#[108, 100]⟩)) (.var 12)) (.const (.string ⟨#[32]⟩))) (.var 36)) (.const (.string ⟨#[32]⟩))), (.bin .add (.bin .add (.bin .add (.const (.string ⟨#[108, 100]⟩)) (.var 12)) (.const (.string ⟨#[32]⟩))) (.var 36))])
                  (.seq
                   (.call (some 38) 30 [(.var 37)] [(.ld none (.offp 3 (.var 3)))])
                  (.seq
                   (.chk [(.bin .add (.bin .add (.bin .add (.bin .add (.bin .add (.bin .add (.const (.string ⟨#[108, 100]⟩)) (.var 12)) (.const (.string ⟨#[32]⟩))) (.var 36)) (.const (.string ⟨#[32]⟩))) (.var 38)) (.const (.string ⟨#[32]⟩))), (.bin .add (.bin .add (.bin .add (.bin .add (.bin .add (.const (.string ⟨#[108, 100]⟩)) (.var 12)) (.const (.string ⟨#[32]⟩))) (.var 36)) (.const (.string ⟨#[32]⟩))) (.var 38))])
                  (.seq
                   (.call (some 40) 32 [(.var 39)] [])
                  (.seq
                   (.chk [(.bin .add (.bin .add (.bin .add (.bin .add (.bin .add (.bin .add (.bin .add (.const (.string ⟨#[108, 100]⟩)) (.var 12)) (.const (.string ⟨#[32]⟩))) (.var 36)) (.const (.string ⟨#[32]⟩))) (.var 38)) (.const (.string ⟨#[32]⟩))) (.var 40))])
                  (.set 2 (.bin .add (.bin .add (.bin .add (.bin .add (.bin .add (.bin .add (.bin .add (.const (.string ⟨#[108, 100]⟩)) (.var 12)) (.const (.string ⟨#[32]⟩))) (.var 36)) (.const (.string ⟨#[32]⟩))) (.var 38)) (.const (.string ⟨#[32]⟩))) (.var 40)))))))))))))
                 .ret)
                 (.seq
                  (.set 41 (.bin .eql (.var 13) (.const (.int .i64 7))))
                 (.cond (.var 41)
                   (.seq
                    (.seq
                     .draw
                    (.seq
                     (.chk [(.ld none (.offp 1 (.var 3))), (.bin .add (.bin .add (.const (.string ⟨#[115, 116]⟩)) (.var 12)) (.const (.string ⟨#[32]⟩))), (.bin .add (.const (.string ⟨#[115, 116]⟩)) (.var 12))])
                    (.seq
                     (.set 43 (.ld none (.offp 3 (.var 3))))
                    (.seq
                     (.chk [(.var 8)])
                    (.seq
                     (.call (some 42) 30 [(.ld none (.offp 1 (.var 3)))] [(.ld none (.offp 3 (.var 3)))])
                    (.seq
                     (.chk [(.bin .add (.bin .add (.bin .add (.bin .add (.const (.string ⟨#[115, 116]⟩)) (.var 12)) (.const (.string ⟨#[32]⟩))) (.var 42)) (.const (.string ⟨#[32]⟩))), (.bin .add (.bin .add (.bin .add (.const (.string ⟨#[115, 116]⟩)) (.var 12)) (.const (.string ⟨#[32]⟩))) (.var 42))])
                    (.seq
                     (.call (some 44) 32 [(.var 43)] [])
                    (.seq
                     (.chk [(.bin .add (.bin .add (.bin .add (.bin .add (.bin .add (.bin .add (.bin .add (.const (.string ⟨#[115, 116]⟩)) (.var 12)) (.const (.string ⟨#[32]⟩))) (.var 42)) (.const (.string ⟨#[32]⟩))) (.var 44)) (.const (.string ⟨#[32]⟩))) (.var 8)), (.bin .add (.bin .add (.bin .add (.bin .add (.bin .add (.bin .add (.const (.string ⟨#[115, 116]⟩)) (.var 12)) (.const (.string ⟨#[32]⟩))) (.var 42)) (.const (.string ⟨#[32]⟩))) (.var 44)) (.const (.string ⟨#[32]⟩))), (.bin .add (.bin .add (.bin .add (.bin .add (.bin .add (.const (.string ⟨#[115, 116]⟩)) (.var 12)) (.const (.string ⟨#[32]⟩))) (.var 42)) (.const (.string ⟨#[32]⟩))) (.var 44))])
                    (.set 2 (.bin .add (.bin .add (.bin .add (.bin .add (.bin .add (.bin .add (.bin .add (.const (.string ⟨#[115, 116]⟩)) (.var 12)) (.const (.string ⟨#[32]⟩))) (.var 42)) (.const (.string ⟨#[32]⟩))) (.var 44)) (.const (.string ⟨#[32]⟩))) (.var 8)))))))))))
                   .ret)
                   (.seq
                    (.set 45 (.bin .eql (.var 13) (.const (.int .i64 8))))
                   (.cond (.var 45)
                     (.seq
                      (.set 46 (.const (.string ⟨#[97, 97, 100, 100]⟩)))
                     (.seq
                      (.cond (.bin .eql (.ld none (.offp 4 (.var 3))) (.const (.int .i32 64)))
                        (.set 46 (.const (.string ⟨#[97, 111, 114]⟩)))
                        .skip)
                     (.seq
                      (.cond (.bin .eql (.ld none (.offp 4 (.var 3))) (.const (.int .i32 80)))
                        (.set 46 (.const (.string ⟨#[97, 97, 110, 100]⟩)))
                        .skip)
                     (.seq
                      (.cond (.bin .eql (.ld none (.offp 4 (.var 3))) (.const (.int .i32 160)))
                        (.set 46 (.const (.string ⟨#[97, 120, 111, 114]⟩)))
                        .skip)
                     (.seq
                      (.seq
                       .draw
                      (.seq
                       (.chk [(.ld none (.offp 1 (.var 3))), (.bin .add (.bin .add (.var 46) (.var 12)) (.const (.string ⟨#[32]⟩)))])
                      (.seq
                       (.set 48 (.ld none (.offp 3 (.var 3))))
                      (.seq
                       (.set 50 (.ld none (.offp 2 (.var 3))))
                      (.seq
                       (.call (some 47) 30 [(.ld none (.offp 1 (.var 3)))] [(.ld none (.offp 2 (.var 3))), (.ld none (.offp 3 (.var 3)))])
                      (.seq
                       (.chk [(.bin .add (.bin .add (.bin .add (.bin .add (.var 46) (.var 12)) (.const (.string ⟨#[32]⟩))) (.var 47)) (.const (.string ⟨#[32]⟩))), (.bin .add (.bin .add (.bin .add (.var 46) (.var 12)) (.const (.string ⟨#[32]⟩))) (.var 47))])
                      (.seq
                       (.call (some 49) 32 [(.var 48)] [(.ld none (.offp 2 (.var 3)))])
                      (.seq
                       (.chk [(.bin .add (.bin .add (.bin .add (.bin .add (.bin .add (.bin .add (.var 46) (.var 12)) (.const (.string ⟨#[32]⟩))) (.var 47)) (.const (.string ⟨#[32]⟩))) (.var 49)) (.const (.string ⟨#[32]⟩))), (.bin .add (.bin .add (.bin .add (.bin .add (.bin .add (.var 46) (.var 12)) (.const (.string ⟨#[32]⟩))) (.var 47)) (.const (.string ⟨#[32]⟩))) (.var 49))])
                      (.seq
                       (.call (some 51) 30 [(.var 50)] [])
                      (.seq
                       (.chk [(.bin .add (.bin .add (.bin .add (.bin .add (.bin .add (.bin .add (.bin .add (.var 46) (.var 12)) (.const (.string ⟨#[32]⟩))) (.var 47)) (.const (.string ⟨#[32]⟩))) (.var 49)) (.const (.string ⟨#[32]⟩))) (.var 51))])
                      (.set 2 (.bin .add (.bin .add (.bin .add (.bin .add (.bin .add (.bin .add (.bin .add (.var 46) (.var 12)) (.const (.string ⟨#[32]⟩))) (.var 47)) (.const (.string ⟨#[32]⟩))) (.var 49)) (.const (.string ⟨#[32]⟩))) (.var 51)))))))))))))
                     .ret)))))
                     .skip))))))))))))))))))
  (.seq
   (.cond (.bin .eql (.ld none (.offp 2 (.var 3))) (.const (.int .u8 1)))
     (.seq
      (.seq
       .draw
      (.seq
       (.chk [(.ld none (.offp 1 (.var 3)))])
      (.seq
       (.set 53 (.conv .i64 (.ld none (.offp 4 (.var 3)))))
      (.seq
       (.call (some 52) 30 [(.ld none (.offp 1 (.var 3)))] [(.ld none (.offp 4 (.var 3)))])
      (.seq
       (.chk [(.bin .add (.bin .add (.const (.string ⟨#[109, 97, 112, 32]⟩)) (.var 52)) (.const (.string ⟨#[32]⟩))), (.bin .add (.const (.string ⟨#[109, 97, 112, 32]⟩)) (.var 52))])
      (.seq
       (.call (some 54) 29 [(.var 53)] [])
      (.seq
       (.chk [(.bin .add (.bin .add (.bin .add (.const (.string ⟨#[109, 97, 112, 32]⟩)) (.var 52)) (.const (.string ⟨#[32]⟩))) (.var 54))])
      (.set 2 (.bin .add (.bin .add (.bin .add (.const (.string ⟨#[109, 97, 112, 32]⟩)) (.var 52)) (.const (.string ⟨#[32]⟩))) (.var 54))))))))))
     .ret)
     .skip)
  (.seq
   (.seq
    .draw
   (.seq
    (.chk [(.ld none (.offp 1 (.var 3)))])
   (.seq
    (.set 56 (.bin .add (.conv .u64 (.conv .u32 (.ld none (.offp 4 (.var 3))))) (.bin .shl (.conv .u64 (.conv .u32 (.ld none (.offp 4 (.var 4))))) (.const (.int .u64 32)))))
   (.seq
    (.call (some 55) 30 [(.ld none (.offp 1 (.var 3)))] [(.ld none (.offp 4 (.var 4))), (.ld none (.offp 4 (.var 3)))])
   (.seq
    (.chk [(.bin .add (.bin .add (.const (.string ⟨#[119, 105, 100, 101, 32]⟩)) (.var 55)) (.const (.string ⟨#[32]⟩))), (.bin .add (.const (.string ⟨#[119, 105, 100, 101, 32]⟩)) (.var 55))])
   (.seq
    (.call (some 57) 31 [(.var 56)] [])
   (.seq
    (.chk [(.bin .add (.bin .add (.bin .add (.const (.string ⟨#[119, 105, 100, 101, 32]⟩)) (.var 55)) (.const (.string ⟨#[32]⟩))) (.var 57))])
   (.set 2 (.bin .add (.bin .add (.bin .add (.const (.string ⟨#[119, 105, 100, 101, 32]⟩)) (.var 55)) (.const (.string ⟨#[32]⟩))) (.var 57))))))))))
  .ret))))))))))
abbrev v_tipstaffref23_Line : List Nat := [0, 1, 4, 2, 3, 13, 5, 17, 6, 22, 7, 28, 8, 30, 31, 33, 35, 42, 43, 40, 9, 53, 55, 57, 64, 65, 62, 72, 73, 70, 75, 79, 81, 86, 88, 90, 97, 101, 102, 106, 107, 109, 116, 120, 121, 126, 10, 143, 147, 148, 152, 153, 160, 165, 166, 170, 182, 183]
abbrev k_tipstaffref23_Line : List (List Nat) := []
abbrev r_tipstaffref23_Line : List Ex := [(.var 2)]
theorem ok_tipstaffref23_Line : compile Tryz.prog Tryz.f18 v_tipstaffref23_Line k_tipstaffref23_Line = some (c_tipstaffref23_Line, r_tipstaffref23_Line) := by kernel_rfl

/- tipstaff/tipstaffref23.signed -/
def c_tipstaffref23_signed : Cmd :=
  (.seq
   (.set 1 (.const (.string ⟨#[]⟩)))
  (.seq
   (.cond (.bin .lss (.var 0) (.const (.int .i64 0)))
     (.seq
      (.seq
       (.call (some 2) 31 [(.conv .u64 (.bin .sub (.const (.int .i64 0)) (.var 0)))] [])
      (.seq
       (.chk [(.bin .add (.const (.string ⟨#[45]⟩)) (.var 2))])
      (.set 1 (.bin .add (.const (.string ⟨#[45]⟩)) (.var 2)))))
     .ret)
     .skip)
  (.seq
   (.seq
    (.call (some 3) 31 [(.conv .u64 (.var 0))] [])
   (.set 1 (.var 3)))
  .ret)))
abbrev v_tipstaffref23_signed : List Nat := [0, 2, 8, 12]
abbrev k_tipstaffref23_signed : List (List Nat) := []
abbrev r_tipstaffref23_signed : List Ex := [(.var 1)]
theorem ok_tipstaffref23_signed : compile Tryz.prog Tryz.f29 v_tipstaffref23_signed k_tipstaffref23_signed = some (c_tipstaffref23_signed, r_tipstaffref23_signed) := by kernel_rfl

/- tipstaff/tipstaffref23.reg -/
def c_tipstaffref23_reg : Cmd :=
  (.seq
   (.set 1 (.const (.string ⟨#[]⟩)))
  (.seq
   (.seq
    (.call (some 2) 31 [(.conv .u64 (.var 0))] [])
   (.seq
    (.chk [(.bin .add (.const (.string ⟨#[114]⟩)) (.var 2))])
   (.set 1 (.bin .add (.const (.string ⟨#[114]⟩)) (.var 2)))))
  .ret))
abbrev v_tipstaffref23_reg : List Nat := [0, 2, 5]
abbrev k_tipstaffref23_reg : List (List Nat) := []
abbrev r_tipstaffref23_reg : List Ex := [(.var 1)]
theorem ok_tipstaffref23_reg : compile Tryz.prog Tryz.f30 v_tipstaffref23_reg k_tipstaffref23_reg = some (c_tipstaffref23_reg, r_tipstaffref23_reg) := by kernel_rfl

/- tipstaff/tipstaffref23.Digits -/
def c_tipstaffref23_Digits : Cmd :=
  (.seq
   (.set 1 (.const (.string ⟨#[]⟩)))
  (.seq
   (.set 2 (.const (.string ⟨#[]⟩)))
  (.seq
   (.block 0
     (.loop [0, 2]
       (.seq
        (.seq
         (.chk [(.pick (.bin .gtr (.var 0) (.const (.int .u64 0))) (.const (.bool true)) (.bin .eql (.var 2) (.const (.string ⟨#[]⟩)))), (.pick (.bin .gtr (.var 0) (.const (.int .u64 0))) (.const (.bool false)) (.bin .eql (.var 2) (.const (.string ⟨#[]⟩))))])
        (.cond (.pick (.bin .gtr (.var 0) (.const (.int .u64 0))) (.const (.bool true)) (.bin .eql (.var 2) (.const (.string ⟨#[]⟩))))
          .skip
          (.exit 0)))
       (.block 1
         (.seq
          (.seq
           (.row (some 3) 5 1 (.upd 0 1 (.const (.agg #[(.int .u8 0)])) (.conv .u8 (.bin .add (.const (.int .u64 48)) (.bin .rem (.var 0) (.const (.int .u64 10)))))) [])
          (.set 2 (.bin .add (.bstr (.var 3)) (.var 2))))
         (.set 0 (.bin .quo (.var 0) (.const (.int .u64 10)))))))))
  (.seq
   (.set 1 (.var 2))
  .ret))))
abbrev v_tipstaffref23_Digits : List Nat := [0, 2, 3, 14]
abbrev k_tipstaffref23_Digits : List (List Nat) := [[0, 2]]
abbrev r_tipstaffref23_Digits : List Ex := [(.var 1)]
theorem ok_tipstaffref23_Digits : compile Tryz.prog Tryz.f31 v_tipstaffref23_Digits k_tipstaffref23_Digits = some (c_tipstaffref23_Digits, r_tipstaffref23_Digits) := by kernel_rfl

/- tipstaff/tipstaffref23.offset -/
def c_tipstaffref23_offset : Cmd :=
  (.seq
   (.set 1 (.const (.string ⟨#[]⟩)))
  (.seq
   (.cond (.bin .lss (.var 0) (.const (.int .i16 0)))
     (.seq
      (.seq
       (.call (some 2) 29 [(.conv .i64 (.var 0))] [])
      (.set 1 (.var 2)))
     .ret)
     .skip)
  (.seq
   (.seq
    (.call (some 3) 31 [(.conv .u64 (.var 0))] [])
   (.seq
    (.chk [(.bin .add (.const (.string ⟨#[43]⟩)) (.var 3))])
   (.set 1 (.bin .add (.const (.string ⟨#[43]⟩)) (.var 3)))))
  .ret)))
abbrev v_tipstaffref23_offset : List Nat := [0, 2, 7, 10]
abbrev k_tipstaffref23_offset : List (List Nat) := []
abbrev r_tipstaffref23_offset : List Ex := [(.var 1)]
theorem ok_tipstaffref23_offset : compile Tryz.prog Tryz.f32 v_tipstaffref23_offset k_tipstaffref23_offset = some (c_tipstaffref23_offset, r_tipstaffref23_offset) := by kernel_rfl

/- tipstaff/tipstaffref04.Same -/
def c_tipstaffref04_Same : Cmd :=
  (.seq
   (.set 2 (.const (.bool false)))
  (.seq
   (.cond (.bin .neq (.len false (.var 0)) (.len false (.var 1)))
     (.seq
      (.set 2 (.const (.bool false)))
     .ret)
     .skip)
  (.seq
   (.seq
    (.set 3 (.const (.int .i64 0)))
   (.block 0
     (.loop [0, 1, 3]
       (.seq
        (.cond (.bin .lss (.var 3) (.len false (.var 0)))
          .skip
          (.exit 0))
       (.seq
        (.block 1
          (.seq
           .draw
          (.cond (.eqx true (.cons 0 none .int (.cons 1 none .int (.cons 2 none .int (.cons 3 none .int (.cons 4 none .int .nil))))) (.ld (some 5) (.ixSl 5 (.var 0) (.var 3))) (.ld (some 5) (.ixSl 5 (.var 1) (.var 3))))
            (.seq
             (.set 2 (.const (.bool false)))
            .ret)
            .skip)))
       (.set 3 (.bin .add (.var 3) (.const (.int .i64 1)))))))))
  (.seq
   (.set 2 (.const (.bool true)))
  .ret))))
abbrev v_tipstaffref04_Same : List Nat := [0, 1, 4, 5]
abbrev k_tipstaffref04_Same : List (List Nat) := [[0, 1, 3]]
abbrev r_tipstaffref04_Same : List Ex := [(.var 2)]
theorem ok_tipstaffref04_Same : compile Tryz.prog Tryz.f11 v_tipstaffref04_Same k_tipstaffref04_Same = some (c_tipstaffref04_Same, r_tipstaffref04_Same) := by kernel_rfl

/- tipstaff/tipstaffref04.Of -/
def c_tipstaffref04_Of : Cmd :=
  (.seq
   (.new (some 1) 66 (.const (.agg #[(.int .i64 0), (.int .i64 0), (.int .i64 0), (.bool false), (.bool false)])) [])
  (.seq
   (.seq
    (.chk [(.conv .i64 (.bin .quo (.var 0) (.const (.int .u8 16))))])
   (.seq
    (.set 2 (.conv .i64 (.bin .rem (.var 0) (.const (.int .u8 8)))))
   (.set 3 (.conv .i64 (.bin .quo (.var 0) (.const (.int .u8 16)))))))
  (.seq
   (.set 4 (.bin .eql (.bin .rem (.bin .quo (.var 0) (.const (.int .u8 8))) (.const (.int .u8 2))) (.const (.int .u8 1))))
  (.seq
   (.seq
    (.set 5 (.var 2))
   (.block 0
     (.seq
      (.seq
       (.set 6 (.bin .eql (.var 5) (.const (.int .i64 4))))
      (.cond (.var 6)
        .skip
        (.set 6 (.bin .eql (.var 5) (.const (.int .i64 7))))))
     (.cond (.var 6)
       (.seq
        (.cond (.pick (.bin .gtr (.var 3) (.const (.int .i64 12))) (.const (.bool true)) (.pick (.bin .eql (.var 3) (.const (.int .i64 8))) (.var 4) (.const (.bool false))))
          (.seq
           (.store 5 (.var 1) (.const (.agg #[(.int .i64 0), (.int .i64 0), (.int .i64 0), (.bool false), (.bool false)])) [])
          .ret)
          .skip)
       (.seq
        (.seq
         (.chk [(.upd 4 1 (.upd 3 1 (.upd 1 1 (.upd 0 1 (.const (.agg #[(.int .i64 0), (.int .i64 0), (.int .i64 0), (.bool false), (.bool false)])) (.const (.int .i64 1))) (.var 3)) (.bin .eql (.var 2) (.const (.int .i64 7)))) (.var 4))])
        (.store 5 (.var 1) (.upd 4 1 (.upd 3 1 (.upd 1 1 (.upd 0 1 (.const (.agg #[(.int .i64 0), (.int .i64 0), (.int .i64 0), (.bool false), (.bool false)])) (.const (.int .i64 1))) (.var 3)) (.bin .eql (.var 2) (.const (.int .i64 7)))) (.var 4)) []))
       .ret))
       (.seq
        (.seq
         (.set 7 (.bin .eql (.var 5) (.const (.int .i64 5))))
        (.cond (.var 7)
          .skip
          (.set 7 (.bin .eql (.var 5) (.const (.int .i64 6))))))
       (.cond (.var 7)
         (.seq
          (.cond (.pick (.pick (.bin .eql (.var 2) (.const (.int .i64 5))) (.un .not (.var 4)) (.const (.bool false))) (.pick (.pick (.bin .eql (.var 3) (.const (.int .i64 0))) (.const (.bool true)) (.bin .eql (.var 3) (.const (.int .i64 8)))) (.const (.bool true)) (.bin .eql (.var 3) (.const (.int .i64 9)))) (.const (.bool false)))
            (.seq
             (.set 8 (.const (.int .i64 3)))
            (.seq
             (.cond (.bin .gtr (.var 3) (.const (.int .i64 0)))
               (.set 8 (.bin .sub (.var 3) (.const (.int .i64 4))))
               .skip)
            (.seq
             (.seq
              (.chk [(.upd 0 1 (.const (.agg #[(.int .i64 0), (.int .i64 0), (.int .i64 0), (.bool false), (.bool false)])) (.var 8))])
             (.store 5 (.var 1) (.upd 0 1 (.const (.agg #[(.int .i64 0), (.int .i64 0), (.int .i64 0), (.bool false), (.bool false)])) (.var 8)) []))
            .ret)))
            .skip)
         (.seq
          (.cond (.pick (.pick (.pick (.bin .eql (.var 3) (.const (.int .i64 0))) (.const (.bool true)) (.bin .eql (.var 3) (.const (.int .i64 8)))) (.const (.bool true)) (.bin .eql (.var 3) (.const (.int .i64 9)))) (.const (.bool true)) (.bin .gtr (.var 3) (.const (.int .i64 13))))
            (.seq
             (.store 5 (.var 1) (.const (.agg #[(.int .i64 0), (.int .i64 0), (.int .i64 0), (.bool false), (.bool false)])) [])
            .ret)
            .skip)
         (.seq
          (.seq
           (.chk [(.upd 4 1 (.upd 3 1 (.upd 1 1 (.upd 0 1 (.const (.agg #[(.int .i64 0), (.int .i64 0), (.int .i64 0), (.bool false), (.bool false)])) (.const (.int .i64 2))) (.var 3)) (.bin .eql (.var 2) (.const (.int .i64 5)))) (.var 4))])
          (.store 5 (.var 1) (.upd 4 1 (.upd 3 1 (.upd 1 1 (.upd 0 1 (.const (.agg #[(.int .i64 0), (.int .i64 0), (.int .i64 0), (.bool false), (.bool false)])) (.const (.int .i64 2))) (.var 3)) (.bin .eql (.var 2) (.const (.int .i64 5)))) (.var 4)) []))
         .ret)))
         (.seq
          (.set 9 (.bin .eql (.var 5) (.const (.int .i64 0))))
         (.cond (.var 9)
           (.seq
            (.cond (.bin .eql (.var 0) (.const (.int .u8 24)))
              (.seq
               (.seq
                (.chk [(.upd 2 1 (.upd 0 1 (.const (.agg #[(.int .i64 0), (.int .i64 0), (.int .i64 0), (.bool false), (.bool false)])) (.const (.int .i64 9))) (.const (.int .i64 8)))])
               (.store 5 (.var 1) (.upd 2 1 (.upd 0 1 (.const (.agg #[(.int .i64 0), (.int .i64 0), (.int .i64 0), (.bool false), (.bool false)])) (.const (.int .i64 9))) (.const (.int .i64 8))) []))
              .ret)
              .skip)
           (.seq
            (.cond (.bin .eql (.var 0) (.const (.int .u8 0)))
              (.seq
               (.seq
                (.chk [(.upd 0 1 (.const (.agg #[(.int .i64 0), (.int .i64 0), (.int .i64 0), (.bool false), (.bool false)])) (.const (.int .i64 10)))])
               (.store 5 (.var 1) (.upd 0 1 (.const (.agg #[(.int .i64 0), (.int .i64 0), (.int .i64 0), (.bool false), (.bool false)])) (.const (.int .i64 10))) []))
              .ret)
              .skip)
           (.seq
            (.store 5 (.var 1) (.const (.agg #[(.int .i64 0), (.int .i64 0), (.int .i64 0), (.bool false), (.bool false)])) [])
           .ret)))
           .skip))))))))
  (.seq
   (.seq
    (.chk [(.idxAgg none 1 4 (.upd 3 1 (.upd 2 1 (.upd 1 1 (.upd 0 1 (.const (.agg (Array.replicate 4 (.int .i64 0)))) (.const (.int .i64 4))) (.const (.int .i64 2))) (.const (.int .i64 1))) (.const (.int .i64 8))) (.bin .rem (.bin .quo (.var 0) (.const (.int .u8 8))) (.const (.int .u8 4)))), (.upd 3 1 (.upd 2 1 (.upd 1 1 (.upd 0 1 (.const (.agg (Array.replicate 4 (.int .i64 0)))) (.const (.int .i64 4))) (.const (.int .i64 2))) (.const (.int .i64 1))) (.const (.int .i64 8)))])
   (.set 10 (.idxAgg none 1 4 (.upd 3 1 (.upd 2 1 (.upd 1 1 (.upd 0 1 (.const (.agg (Array.replicate 4 (.int .i64 0)))) (.const (.int .i64 4))) (.const (.int .i64 2))) (.const (.int .i64 1))) (.const (.int .i64 8))) (.bin .rem (.bin .quo (.var 0) (.const (.int .u8 8))) (.const (.int .u8 4))))))
  (.seq
   (.set 11 (.conv .i64 (.bin .quo (.var 0) (.const (.int .u8 32)))))
  (.seq
   (.cond (.bin .eql (.var 11) (.const (.int .i64 3)))
     (.seq
      (.seq
       (.chk [(.upd 4 1 (.upd 2 1 (.upd 0 1 (.const (.agg #[(.int .i64 0), (.int .i64 0), (.int .i64 0), (.bool false), (.bool false)])) (.idxAgg none 1 4 (.upd 3 1 (.upd 2 1 (.upd 1 1 (.upd 0 1 (.const (.agg (Array.replicate 4 (.int .i64 0)))) (.const (.int .i64 0))) (.const (.int .i64 6))) (.const (.int .i64 7))) (.const (.int .i64 7))) (.var 2))) (.var 10)) (.bin .eql (.var 2) (.const (.int .i64 3)))), (.idxAgg none 1 4 (.upd 3 1 (.upd 2 1 (.upd 1 1 (.upd 0 1 (.const (.agg (Array.replicate 4 (.int .i64 0)))) (.const (.int .i64 0))) (.const (.int .i64 6))) (.const (.int .i64 7))) (.const (.int .i64 7))) (.var 2)), (.upd 3 1 (.upd 2 1 (.upd 1 1 (.upd 0 1 (.const (.agg (Array.replicate 4 (.int .i64 0)))) (.const (.int .i64 0))) (.const (.int .i64 6))) (.const (.int .i64 7))) (.const (.int .i64 7)))])
      (.store 5 (.var 1) (.upd 4 1 (.upd 2 1 (.upd 0 1 (.const (.agg #[(.int .i64 0), (.int .i64 0), (.int .i64 0), (.bool false), (.bool false)])) (.idxAgg none 1 4 (.upd 3 1 (.upd 2 1 (.upd 1 1 (.upd 0 1 (.const (.agg (Array.replicate 4 (.int .i64 0)))) (.const (.int .i64 0))) (.const (.int .i64 6))) (.const (.int .i64 7))) (.const (.int .i64 7))) (.var 2))) (.var 10)) (.bin .eql (.var 2) (.const (.int .i64 3)))) []))
     .ret)
     .skip)
  (.seq
   (.cond (.pick (.pick (.bin .eql (.var 11) (.const (.int .i64 6))) (.bin .eql (.var 2) (.const (.int .i64 3))) (.const (.bool false))) (.pick (.bin .eql (.var 10) (.const (.int .i64 4))) (.const (.bool true)) (.bin .eql (.var 10) (.const (.int .i64 8)))) (.const (.bool false)))
     (.seq
      (.seq
       (.chk [(.upd 4 1 (.upd 2 1 (.upd 0 1 (.const (.agg #[(.int .i64 0), (.int .i64 0), (.int .i64 0), (.bool false), (.bool false)])) (.const (.int .i64 8))) (.var 10)) (.const (.bool true)))])
      (.store 5 (.var 1) (.upd 4 1 (.upd 2 1 (.upd 0 1 (.const (.agg #[(.int .i64 0), (.int .i64 0), (.int .i64 0), (.bool false), (.bool false)])) (.const (.int .i64 8))) (.var 10)) (.const (.bool true))) []))
     .ret)
     .skip)
  (.seq
   (.store 5 (.var 1) (.const (.agg #[(.int .i64 0), (.int .i64 0), (.int .i64 0), (.bool false), (.bool false)])) [])
  .ret)))))))))
abbrev v_tipstaffref04_Of : List Nat := [0, 2, 3, 4, 5, 19, 20, 38, 6, 85, 7, 8]
abbrev k_tipstaffref04_Of : List (List Nat) := []
abbrev r_tipstaffref04_Of : List Ex := [(.ld (some 5) (.var 1))]
theorem ok_tipstaffref04_Of : compile Tryz.prog Tryz.f27 v_tipstaffref04_Of k_tipstaffref04_Of = some (c_tipstaffref04_Of, r_tipstaffref04_Of) := by kernel_rfl

/- tipstaff/tipstaffref05.Check -/
def c_tipstaffref05_Check : Cmd :=
  (.seq
   (.seq
    (.set 1 (.const (.int .i64 0)))
   (.set 2 (.const (.int .i64 0))))
  (.seq
   (.cond (.bin .gtr (.len false (.var 0)) (.const (.int .i64 256)))
     (.seq
      (.seq
       (.set 1 (.const (.int .i64 0)))
      (.set 2 (.const (.int .i64 7))))
     .ret)
     .skip)
  (.seq
   (.cond (.bin .eql (.len false (.var 0)) (.const (.int .i64 0)))
     (.seq
      (.seq
       (.set 1 (.const (.int .i64 0)))
      (.set 2 (.const (.int .i64 22))))
     .ret)
     .skip)
  (.seq
   (.seq
    (.set 3 (.const (.int .i64 0)))
   (.block 0
     (.loop [0, 3]
       (.seq
        (.cond (.bin .lss (.var 3) (.len false (.var 0)))
          .skip
          (.exit 0))
       (.seq
        (.block 1
          (.seq
           (.call (some 4) 48 [(.var 0), (.var 3)] [])
          (.cond (.un .not (.var 4))
            (.seq
             (.seq
              (.set 1 (.var 3))
             (.set 2 (.const (.int .i64 22))))
            .ret)
            .skip)))
       (.set 3 (.bin .add (.var 3) (.const (.int .i64 1)))))))))
  (.seq
   (.seq
    (.set 5 (.const (.int .i64 0)))
   (.block 2
     (.loop [0, 5]
       (.seq
        (.cond (.bin .lss (.var 5) (.len false (.var 0)))
          .skip
          (.exit 2))
       (.seq
        (.block 3
          (.seq
           (.seq
            (.call (some 6) 27 [(.ld none (.offp 0 (.ixSl 5 (.var 0) (.var 5))))] [])
           (.set 7 (.part none 0 (.var 6))))
          (.seq
           (.cond (.pick (.bin .neq (.var 7) (.const (.int .i64 2))) (.bin .neq (.var 7) (.const (.int .i64 3))) (.const (.bool false)))
             (.exit 3)
             .skip)
          (.seq
           (.set 8 (.bin .add (.bin .add (.var 5) (.conv .i64 (.ld none (.offp 3 (.ixSl 5 (.var 0) (.var 5)))))) (.const (.int .i64 1))))
          (.seq
           (.seq
            (.chk [(.pick (.pick (.bin .lss (.var 8) (.const (.int .i64 0))) (.const (.bool true)) (.bin .geq (.var 8) (.len false (.var 0)))) (.const (.bool false)) (.ld none (.offp 0 (.ixSl 5 (.var 0) (.var 8)))))])
           (.cond (.pick (.pick (.bin .lss (.var 8) (.const (.int .i64 0))) (.const (.bool true)) (.bin .geq (.var 8) (.len false (.var 0)))) (.const (.bool false)) (.const (.bool true)))
             (.call (some 9) 27 [(.ld none (.offp 0 (.ixSl 5 (.var 0) (.var 8))))] [])
             (.clr [9])))
          (.cond (.pick (.pick (.bin .lss (.var 8) (.const (.int .i64 0))) (.const (.bool true)) (.bin .geq (.var 8) (.len false (.var 0)))) (.const (.bool true)) (.bin .eql (.part none 0 (.var 9)) (.const (.int .i64 10))))
            (.seq
             (.seq
              (.set 1 (.var 5))
             (.set 2 (.const (.int .i64 22))))
            .ret)
            .skip))))))
       (.set 5 (.bin .add (.var 5) (.const (.int .i64 1)))))))))
  (.seq
   (.seq
    (.seq
     (.call (some 10) 27 [(.ld none (.offp 0 (.ixSl 5 (.var 0) (.bin .sub (.len false (.var 0)) (.const (.int .i64 1))))))] [])
    (.set 11 (.part none 0 (.var 10))))
   (.cond (.pick (.bin .neq (.var 11) (.const (.int .i64 3))) (.bin .neq (.var 11) (.const (.int .i64 5))) (.const (.bool false)))
     (.seq
      (.seq
       (.set 1 (.bin .sub (.len false (.var 0)) (.const (.int .i64 1))))
      (.set 2 (.const (.int .i64 22))))
     .ret)
     .skip))
  (.seq
   (.seq
    (.set 1 (.const (.int .i64 0)))
   (.set 2 (.const (.int .i64 0))))
  .ret)))))))
abbrev v_tipstaffref05_Check : List Nat := [0, 2, 3, 4, 23, 5, 37, 6, 7, 68, 80, 8]
abbrev k_tipstaffref05_Check : List (List Nat) := [[0, 3], [0, 5]]
abbrev r_tipstaffref05_Check : List Ex := [(.var 1), (.var 2)]
theorem ok_tipstaffref05_Check : compile Tryz.prog Tryz.f28 v_tipstaffref05_Check k_tipstaffref05_Check = some (c_tipstaffref05_Check, r_tipstaffref05_Check) := by kernel_rfl

/- tipstaff/tipstaffref05.one -/
def c_tipstaffref05_one : Cmd :=
  (.seq
   (.set 2 (.const (.bool false)))
  (.seq
   (.seq
    (.set 4 (.ld (some 5) (.ixSl 5 (.var 0) (.var 1))))
   (.seq
    (.new (some 3) 39 (.const (.agg #[(.int .u8 0), (.int .u8 0), (.int .u8 0), (.int .i16 0), (.int .i32 0)])) [])
   (.store 5 (.var 3) (.var 4) [])))
  (.seq
   (.seq
    (.call (some 5) 27 [(.ld none (.offp 0 (.var 3)))] [])
   (.seq
    (.new (some 6) 66 (.const (.agg #[(.int .i64 0), (.int .i64 0), (.int .i64 0), (.bool false), (.bool false)])) [])
   (.store 5 (.var 6) (.var 5) [])))
  (.seq
   (.seq
    (.call (some 7) 69 [(.ld (some 5) (.var 6))] [])
   (.seq
    (.new (some 8) 108 (.const (.agg (Array.replicate 4 (.bool false)))) [])
   (.store 4 (.var 8) (.var 7) [])))
  (.seq
   (.cond (.pick (.pick (.pick (.pick (.pick (.pick (.bin .eql (.ld none (.offp 0 (.var 6))) (.const (.int .i64 0))) (.const (.bool true)) (.bin .gtr (.ld none (.offp 1 (.var 3))) (.const (.int .u8 10)))) (.const (.bool true)) (.bin .gtr (.ld none (.offp 2 (.var 3))) (.const (.int .u8 10)))) (.const (.bool true)) (.pick (.un .not (.ld none (.ixArr 4 1 (.var 8) (.const (.int .i64 0))))) (.bin .neq (.ld none (.offp 1 (.var 3))) (.const (.int .u8 0))) (.const (.bool false)))) (.const (.bool true)) (.pick (.un .not (.ld none (.ixArr 4 1 (.var 8) (.const (.int .i64 1))))) (.bin .neq (.ld none (.offp 2 (.var 3))) (.const (.int .u8 0))) (.const (.bool false)))) (.const (.bool true)) (.pick (.un .not (.ld none (.ixArr 4 1 (.var 8) (.const (.int .i64 2))))) (.bin .neq (.ld none (.offp 3 (.var 3))) (.const (.int .i16 0))) (.const (.bool false)))) (.const (.bool true)) (.pick (.un .not (.ld none (.ixArr 4 1 (.var 8) (.const (.int .i64 3))))) (.bin .neq (.ld none (.offp 4 (.var 3))) (.const (.int .i32 0))) (.const (.bool false))))
     (.seq
      (.set 2 (.const (.bool false)))
     .ret)
     .skip)
  (.seq
   (.cond (.pick (.pick (.pick (.bin .eql (.ld none (.offp 0 (.var 6))) (.const (.int .i64 1))) (.const (.bool true)) (.bin .eql (.ld none (.offp 0 (.var 6))) (.const (.int .i64 6)))) (.const (.bool true)) (.bin .eql (.ld none (.offp 0 (.var 6))) (.const (.int .i64 9)))) (.bin .eql (.ld none (.offp 1 (.var 3))) (.const (.int .u8 10))) (.const (.bool false)))
     (.seq
      (.set 2 (.const (.bool false)))
     .ret)
     .skip)
  (.seq
   (.seq
    (.set 9 (.ld none (.offp 0 (.var 6))))
   (.block 0
     (.seq
      (.set 10 (.bin .eql (.var 9) (.const (.int .i64 1))))
     (.cond (.var 10)
       (.seq
        (.cond (.pick (.pick (.un .not (.ld none (.offp 4 (.var 6)))) (.pick (.bin .eql (.ld none (.offp 1 (.var 6))) (.const (.int .i64 3))) (.const (.bool true)) (.bin .eql (.ld none (.offp 1 (.var 6))) (.const (.int .i64 9)))) (.const (.bool false))) (.bin .eql (.ld none (.offp 4 (.var 3))) (.const (.int .i32 0))) (.const (.bool false)))
          (.seq
           (.set 2 (.const (.bool false)))
          .ret)
          .skip)
       (.cond (.pick (.pick (.un .not (.ld none (.offp 4 (.var 6)))) (.pick (.pick (.bin .eql (.ld none (.offp 1 (.var 6))) (.const (.int .i64 6))) (.const (.bool true)) (.bin .eql (.ld none (.offp 1 (.var 6))) (.const (.int .i64 7)))) (.const (.bool true)) (.bin .eql (.ld none (.offp 1 (.var 6))) (.const (.int .i64 12)))) (.const (.bool false))) (.pick (.pick (.bin .lss (.ld none (.offp 4 (.var 3))) (.const (.int .i32 0))) (.const (.bool true)) (.bin .gtr (.ld none (.offp 4 (.var 3))) (.const (.int .i32 63)))) (.const (.bool true)) (.pick (.un .not (.ld none (.offp 3 (.var 6)))) (.bin .gtr (.ld none (.offp 4 (.var 3))) (.const (.int .i32 31))) (.const (.bool false)))) (.const (.bool false)))
         (.seq
          (.set 2 (.const (.bool false)))
         .ret)
         .skip))
       (.seq
        (.set 11 (.bin .eql (.var 9) (.const (.int .i64 4))))
       (.cond (.var 11)
         (.seq
          (.seq
           (.call (some 12) 70 [(.ld none (.offp 4 (.var 3)))] [])
          (.set 2 (.bin .geq (.var 12) (.const (.int .i64 0)))))
         .ret)
         (.seq
          (.set 13 (.bin .eql (.var 9) (.const (.int .i64 8))))
         (.cond (.var 13)
           (.seq
            (.set 2 (.pick (.pick (.pick (.bin .eql (.ld none (.offp 4 (.var 3))) (.const (.int .i32 0))) (.const (.bool true)) (.bin .eql (.ld none (.offp 4 (.var 3))) (.const (.int .i32 64)))) (.const (.bool true)) (.bin .eql (.ld none (.offp 4 (.var 3))) (.const (.int .i32 80)))) (.const (.bool true)) (.bin .eql (.ld none (.offp 4 (.var 3))) (.const (.int .i32 160)))))
           .ret)
           (.seq
            (.set 14 (.bin .eql (.var 9) (.const (.int .i64 9))))
           (.cond (.var 14)
             (.seq
              (.seq
               (.seq
                (.chk [(.pick (.bin .geq (.bin .add (.var 1) (.const (.int .i64 1))) (.len false (.var 0))) (.const (.bool false)) (.ld none (.offp 0 (.ixSl 5 (.var 0) (.bin .add (.var 1) (.const (.int .i64 1)))))))])
               (.cond (.pick (.bin .geq (.bin .add (.var 1) (.const (.int .i64 1))) (.len false (.var 0))) (.const (.bool false)) (.const (.bool true)))
                 (.call (some 15) 27 [(.ld none (.offp 0 (.ixSl 5 (.var 0) (.bin .add (.var 1) (.const (.int .i64 1))))))] [])
                 (.clr [15])))
              (.cond (.pick (.pick (.bin .geq (.bin .add (.var 1) (.const (.int .i64 1))) (.len false (.var 0))) (.const (.bool true)) (.bin .neq (.part none 0 (.var 15)) (.const (.int .i64 10)))) (.const (.bool true)) (.bin .gtr (.ld none (.offp 2 (.var 3))) (.const (.int .u8 1))))
                (.seq
                 (.set 2 (.const (.bool false)))
                .ret)
                .skip))
             (.seq
              (.set 2 (.pick (.bin .eql (.ld none (.offp 2 (.var 3))) (.const (.int .u8 0))) (.const (.bool true)) (.pick (.pick (.bin .geq (.ld none (.offp 4 (.var 3))) (.const (.int .i32 0))) (.bin .leq (.ld none (.offp 4 (.var 3))) (.const (.int .i32 3))) (.const (.bool false))) (.bin .eql (.ld none (.offp 4 (.ixSl 5 (.var 0) (.bin .add (.var 1) (.const (.int .i64 1)))))) (.const (.int .i32 0))) (.const (.bool false)))))
             .ret))
             (.seq
              (.set 16 (.bin .eql (.var 9) (.const (.int .i64 10))))
             (.cond (.var 16)
               (.seq
                (.seq
                 (.chk [(.pick (.bin .gtr (.var 1) (.const (.int .i64 0))) (.ld none (.offp 0 (.ixSl 5 (.var 0) (.bin .sub (.var 1) (.const (.int .i64 1)))))) (.const (.bool false)))])
                (.seq
                 (.cond (.pick (.bin .gtr (.var 1) (.const (.int .i64 0))) (.const (.bool true)) (.const (.bool false)))
                   (.call (some 17) 27 [(.ld none (.offp 0 (.ixSl 5 (.var 0) (.bin .sub (.var 1) (.const (.int .i64 1))))))] [])
                   (.clr [17]))
                (.set 2 (.pick (.bin .gtr (.var 1) (.const (.int .i64 0))) (.bin .eql (.part none 0 (.var 17)) (.const (.int .i64 9))) (.const (.bool false))))))
               .ret)
               .skip))))))))))))
  (.seq
   (.set 2 (.const (.bool true)))
  .ret))))))))
abbrev v_tipstaffref05_one : List Nat := [0, 1, 4, 5, 11, 14, 6, 16, 7, 89, 90, 148, 152, 154, 174, 188, 219, 230]
abbrev k_tipstaffref05_one : List (List Nat) := []
abbrev r_tipstaffref05_one : List Ex := [(.var 2)]
theorem ok_tipstaffref05_one : compile Tryz.prog Tryz.f48 v_tipstaffref05_one k_tipstaffref05_one = some (c_tipstaffref05_one, r_tipstaffref05_one) := by kernel_rfl

/- tipstaff/tipstaffref05.may -/
def c_tipstaffref05_may : Cmd :=
  (.seq
   (.seq
    (.new (some 2) 66 (.var 0) [])
   (.new (some 1) 108 (.const (.agg (Array.replicate 4 (.bool false)))) []))
  (.seq
   (.seq
    (.set 3 (.ld none (.offp 0 (.var 2))))
   (.block 0
     (.seq
      (.set 4 (.bin .eql (.var 3) (.const (.int .i64 1))))
     (.cond (.var 4)
       (.seq
        (.seq
         (.chk [(.upd 3 1 (.upd 2 1 (.upd 1 1 (.upd 0 1 (.const (.agg (Array.replicate 4 (.bool false)))) (.const (.bool true))) (.ld none (.offp 4 (.var 2)))) (.const (.bool false))) (.pick (.un .not (.ld none (.offp 4 (.var 2)))) (.bin .neq (.ld none (.offp 1 (.var 2))) (.const (.int .i64 8))) (.const (.bool false))))])
        (.store 4 (.var 1) (.upd 3 1 (.upd 2 1 (.upd 1 1 (.upd 0 1 (.const (.agg (Array.replicate 4 (.bool false)))) (.const (.bool true))) (.ld none (.offp 4 (.var 2)))) (.const (.bool false))) (.pick (.un .not (.ld none (.offp 4 (.var 2)))) (.bin .neq (.ld none (.offp 1 (.var 2))) (.const (.int .i64 8))) (.const (.bool false)))) []))
       .ret)
       (.seq
        (.set 5 (.bin .eql (.var 3) (.const (.int .i64 2))))
       (.cond (.var 5)
         (.seq
          (.seq
           (.chk [(.upd 3 1 (.upd 2 1 (.upd 1 1 (.upd 0 1 (.const (.agg (Array.replicate 4 (.bool false)))) (.const (.bool true))) (.ld none (.offp 4 (.var 2)))) (.const (.bool true))) (.un .not (.ld none (.offp 4 (.var 2)))))])
          (.store 4 (.var 1) (.upd 3 1 (.upd 2 1 (.upd 1 1 (.upd 0 1 (.const (.agg (Array.replicate 4 (.bool false)))) (.const (.bool true))) (.ld none (.offp 4 (.var 2)))) (.const (.bool true))) (.un .not (.ld none (.offp 4 (.var 2))))) []))
         .ret)
         (.seq
          (.set 6 (.bin .eql (.var 3) (.const (.int .i64 3))))
         (.cond (.var 6)
           (.seq
            (.seq
             (.chk [(.upd 3 1 (.upd 2 1 (.upd 1 1 (.upd 0 1 (.const (.agg (Array.replicate 4 (.bool false)))) (.const (.bool false))) (.const (.bool false))) (.const (.bool true))) (.const (.bool false)))])
            (.store 4 (.var 1) (.upd 3 1 (.upd 2 1 (.upd 1 1 (.upd 0 1 (.const (.agg (Array.replicate 4 (.bool false)))) (.const (.bool false))) (.const (.bool false))) (.const (.bool true))) (.const (.bool false))) []))
           .ret)
           (.seq
            (.set 7 (.bin .eql (.var 3) (.const (.int .i64 4))))
           (.cond (.var 7)
             (.seq
              (.seq
               (.chk [(.upd 3 1 (.upd 2 1 (.upd 1 1 (.upd 0 1 (.const (.agg (Array.replicate 4 (.bool false)))) (.const (.bool false))) (.const (.bool false))) (.const (.bool false))) (.const (.bool true)))])
              (.store 4 (.var 1) (.upd 3 1 (.upd 2 1 (.upd 1 1 (.upd 0 1 (.const (.agg (Array.replicate 4 (.bool false)))) (.const (.bool false))) (.const (.bool false))) (.const (.bool false))) (.const (.bool true))) []))
             .ret)
             (.seq
              (.set 8 (.bin .eql (.var 3) (.const (.int .i64 6))))
             (.cond (.var 8)
               (.seq
                (.seq
                 (.chk [(.upd 3 1 (.upd 2 1 (.upd 1 1 (.upd 0 1 (.const (.agg (Array.replicate 4 (.bool false)))) (.const (.bool true))) (.const (.bool true))) (.const (.bool true))) (.const (.bool false)))])
                (.store 4 (.var 1) (.upd 3 1 (.upd 2 1 (.upd 1 1 (.upd 0 1 (.const (.agg (Array.replicate 4 (.bool false)))) (.const (.bool true))) (.const (.bool true))) (.const (.bool true))) (.const (.bool false))) []))
               .ret)
               (.seq
                (.set 9 (.bin .eql (.var 3) (.const (.int .i64 7))))
               (.cond (.var 9)
                 (.seq
                  (.seq
                   (.chk [(.upd 3 1 (.upd 2 1 (.upd 1 1 (.upd 0 1 (.const (.agg (Array.replicate 4 (.bool false)))) (.const (.bool true))) (.ld none (.offp 4 (.var 2)))) (.const (.bool true))) (.un .not (.ld none (.offp 4 (.var 2)))))])
                  (.store 4 (.var 1) (.upd 3 1 (.upd 2 1 (.upd 1 1 (.upd 0 1 (.const (.agg (Array.replicate 4 (.bool false)))) (.const (.bool true))) (.ld none (.offp 4 (.var 2)))) (.const (.bool true))) (.un .not (.ld none (.offp 4 (.var 2))))) []))
                 .ret)
                 (.seq
                  (.set 10 (.bin .eql (.var 3) (.const (.int .i64 8))))
                 (.cond (.var 10)
                   (.seq
                    (.seq
                     (.chk [(.upd 3 1 (.upd 2 1 (.upd 1 1 (.upd 0 1 (.const (.agg (Array.replicate 4 (.bool false)))) (.const (.bool true))) (.const (.bool true))) (.const (.bool true))) (.const (.bool true)))])
                    (.store 4 (.var 1) (.upd 3 1 (.upd 2 1 (.upd 1 1 (.upd 0 1 (.const (.agg (Array.replicate 4 (.bool false)))) (.const (.bool true))) (.const (.bool true))) (.const (.bool true))) (.const (.bool true))) []))
                   .ret)
                   (.seq
                    (.set 11 (.bin .eql (.var 3) (.const (.int .i64 9))))
                   (.cond (.var 11)
                     (.seq
                      (.seq
                       (.chk [(.upd 3 1 (.upd 2 1 (.upd 1 1 (.upd 0 1 (.const (.agg (Array.replicate 4 (.bool false)))) (.const (.bool true))) (.const (.bool true))) (.const (.bool false))) (.const (.bool true)))])
                      (.store 4 (.var 1) (.upd 3 1 (.upd 2 1 (.upd 1 1 (.upd 0 1 (.const (.agg (Array.replicate 4 (.bool false)))) (.const (.bool true))) (.const (.bool true))) (.const (.bool false))) (.const (.bool true))) []))
                     .ret)
                     (.seq
                      (.set 12 (.bin .eql (.var 3) (.const (.int .i64 10))))
                     (.cond (.var 12)
                       (.seq
                        (.seq
                         (.chk [(.upd 3 1 (.upd 2 1 (.upd 1 1 (.upd 0 1 (.const (.agg (Array.replicate 4 (.bool false)))) (.const (.bool false))) (.const (.bool false))) (.const (.bool false))) (.const (.bool true)))])
                        (.store 4 (.var 1) (.upd 3 1 (.upd 2 1 (.upd 1 1 (.upd 0 1 (.const (.agg (Array.replicate 4 (.bool false)))) (.const (.bool false))) (.const (.bool false))) (.const (.bool false))) (.const (.bool true))) []))
                       .ret)
                       .skip))))))))))))))))))))
  (.seq
   (.store 4 (.var 1) (.const (.agg (Array.replicate 4 (.bool false)))) [])
  .ret)))
abbrev v_tipstaffref05_may : List Nat := [0, 2, 1, 4, 5, 18, 26, 29, 32, 35, 43, 46, 49]
abbrev k_tipstaffref05_may : List (List Nat) := []
abbrev r_tipstaffref05_may : List Ex := [(.ld (some 4) (.var 1))]
theorem ok_tipstaffref05_may : compile Tryz.prog Tryz.f69 v_tipstaffref05_may k_tipstaffref05_may = some (c_tipstaffref05_may, r_tipstaffref05_may) := by kernel_rfl

/- tipstaff/tipstaffref05.Args -/
def c_tipstaffref05_Args : Cmd :=
  (.seq
   (.set 1 (.const (.int .i64 0)))
  (.seq
   (.seq
    (.set 2 (.var 0))
   (.block 0
     (.seq
      (.seq
       (.set 3 (.bin .eql (.var 2) (.const (.int .i32 1))))
      (.cond (.var 3)
        .skip
        (.seq
         (.set 3 (.bin .eql (.var 2) (.const (.int .i32 3))))
        (.cond (.var 3)
          .skip
          (.seq
           (.set 3 (.bin .eql (.var 2) (.const (.int .i32 88))))
          (.cond (.var 3)
            .skip
            (.set 3 (.bin .eql (.var 2) (.const (.int .i32 89))))))))))
     (.cond (.var 3)
       (.seq
        (.set 1 (.const (.int .i64 2)))
       .ret)
       (.seq
        (.set 4 (.bin .eql (.var 2) (.const (.int .i32 2))))
       (.cond (.var 4)
         (.seq
          (.set 1 (.const (.int .i64 4)))
         .ret)
         (.seq
          (.seq
           (.set 5 (.bin .eql (.var 2) (.const (.int .i32 5))))
          (.cond (.var 5)
            .skip
            (.set 5 (.bin .eql (.var 2) (.const (.int .i32 7))))))
         (.cond (.var 5)
           (.seq
            (.set 1 (.const (.int .i64 0)))
           .ret)
           (.seq
            (.set 6 (.bin .eql (.var 2) (.const (.int .i32 87))))
           (.cond (.var 6)
             (.seq
              (.set 1 (.const (.int .i64 3)))
             .ret)
             .skip))))))))))
  (.seq
   (.set 1 (.const (.int .i64 (-1))))
  .ret)))
abbrev v_tipstaffref05_Args : List Nat := [0, 2, 3, 4, 9, 11, 14]
abbrev k_tipstaffref05_Args : List (List Nat) := []
abbrev r_tipstaffref05_Args : List Ex := [(.var 1)]
theorem ok_tipstaffref05_Args : compile Tryz.prog Tryz.f70 v_tipstaffref05_Args k_tipstaffref05_Args = some (c_tipstaffref05_Args, r_tipstaffref05_Args) := by kernel_rfl

/- tipstaff/asm.Parse -/
def c_asm_Parse : Cmd :=
  (.seq
   (.seq
    (.set 1 (.const (.slice none 0 0)))
   (.seq
    (.set 2 (.const (.int .i64 0)))
   (.set 3 (.const (.int .i64 0)))))
  (.seq
   (.set 4 (.const (.slice none 0 0)))
  (.seq
   (.seq
    (.set 5 (.const (.int .i64 1)))
   (.block 0
     (.loop [0, 4, 5]
       (.seq
        (.seq
         (.chk [(.bin .neq (.var 0) (.const (.string ⟨#[]⟩)))])
        (.cond (.bin .neq (.var 0) (.const (.string ⟨#[]⟩)))
          .skip
          (.exit 0)))
       (.seq
        (.block 1
          (.seq
           (.seq
            (.call (some 6) 19 [(.var 0), (.const (.string ⟨#[10]⟩))] [])
           (.seq
            (.chk [(.proj 2 (.var 6)), (.proj 1 (.var 6))])
           (.seq
            (.set 7 (.proj 0 (.var 6)))
           (.seq
            (.set 8 (.proj 1 (.var 6)))
           (.set 9 (.proj 2 (.var 6)))))))
          (.seq
           (.seq
            (.call (some 10) 20 [(.var 7)] [])
           (.seq
            (.chk [(.proj 1 (.var 10))])
           (.seq
            (.set 11 (.proj 0 (.var 10)))
           (.set 12 (.proj 1 (.var 10))))))
          (.seq
           (.cond (.pick (.un .not (.var 9)) (.const (.bool true)) (.un .not (.var 12)))
             (.seq
              (.seq
               (.chk [(.var 5)])
              (.seq
               (.set 1 (.const (.slice none 0 0)))
              (.seq
               (.set 2 (.var 5))
              (.set 3 (.const (.int .i64 22))))))
             .ret)
             .skip)
          (.seq
           (.bi (some 13) .append [23, 23] 23 [(.var 4), (.var 11)] [])
          (.seq
           (.chk [(.var 8)])
          (.seq
           (.set 4 (.var 13))
          (.set 0 (.var 8)))))))))
       (.set 5 (.bin .add (.var 5) (.const (.int .i64 1)))))))))
  (.seq
   (.cond (.bin .gtr (.len false (.var 4)) (.const (.int .i64 256)))
     (.seq
      (.seq
       (.set 1 (.const (.slice none 0 0)))
      (.seq
       (.set 2 (.const (.int .i64 0)))
      (.set 3 (.const (.int .i64 7)))))
     .ret)
     .skip)
  (.seq
   (.seq
    (.set 1 (.var 4))
   (.seq
    (.set 2 (.const (.int .i64 0)))
   (.set 3 (.const (.int .i64 0)))))
  .ret)))))
abbrev v_asm_Parse : List Nat := [0, 2, 3, 4, 5, 6, 18, 7, 8, 9, 24, 10, 11, 36]
abbrev k_asm_Parse : List (List Nat) := [[0, 4, 5]]
abbrev r_asm_Parse : List Ex := [(.var 1), (.var 2), (.var 3)]
theorem ok_asm_Parse : compile Tryz.prog Tryz.f9 v_asm_Parse k_asm_Parse = some (c_asm_Parse, r_asm_Parse) := by kernel_rfl

/- tipstaff/asm.Text -/
def c_asm_Text : Cmd :=
  (.seq
   (.seq
    (.set 1 (.const (.string ⟨#[]⟩)))
   (.set 2 (.const (.int .i64 0))))
  (.seq
   (.seq
    (.call (some 3) 21 [(.var 0)] [])
   (.cond (.un .not (.var 3))
     (.seq
      (.seq
       (.set 1 (.const (.string ⟨#[]⟩)))
      (.set 2 (.const (.int .i64 22))))
     .ret)
     .skip))
  (.seq
   (.new (some 4) 56 (.const (.agg #[(.pointer none), (.slice none 0 0)])) [])
  (.seq
   (.seq
    (.seq
     (.set 7 (.var 0))
    (.seq
     (.set 6 (.len false (.var 7)))
    (.set 5 (.const (.int .i64 0)))))
   (.block 0
     (.loop [0, 4, 5, 6, 7]
       (.seq
        (.cond (.bin .lss (.var 5) (.var 6))
          .skip
          (.exit 0))
       (.seq
        (.block 1
          (.seq
           (.seq
            (.set 10 (.ld (some 5) (.ixSl 5 (.var 7) (.var 5))))
           (.seq
            (.new (some 8) 39 (.const (.agg #[(.int .u8 0), (.int .u8 0), (.int .u8 0), (.int .i16 0), (.int .i32 0)])) [])
           (.seq
            (.set 9 (.var 5))
           (.store 5 (.var 8) (.var 10) []))))
          (.seq
           (.seq
            (.call (some 11) 22 [(.ld (some 5) (.var 8))] [])
           (.cond (.bin .eql (.var 11) (.const (.int .i64 10)))
             (.exit 1)
             .skip))
          (.seq
           (.seq
            (.new (some 12) 39 (.const (.agg #[(.int .u8 0), (.int .u8 0), (.int .u8 0), (.int .i16 0), (.int .i32 0)])) [])
           (.store 5 (.var 12) (.const (.agg #[(.int .u8 0), (.int .u8 0), (.int .u8 0), (.int .i16 0), (.int .i32 0)])) []))
          (.seq
           (.seq
            (.call (some 13) 22 [(.ld (some 5) (.var 8))] [])
           (.cond (.bin .eql (.var 13) (.const (.int .i64 9)))
             (.store 5 (.var 12) (.ld (some 5) (.ixSl 5 (.var 0) (.bin .add (.var 9) (.const (.int .i64 1))))) [])
             .skip))
          (.seq
           (.call (some 14) 25 [(.ld (some 5) (.var 8)), (.ld (some 5) (.var 12))] [])
          (.seq
           (.call (some 15) 24 [(.var 14), (.const (.string ⟨#[32]⟩))] [])
          (.seq
           (.chk [(.bin .add (.var 15) (.const (.string ⟨#[10]⟩)))])
          (.call none 23 [(.var 4), (.bin .add (.var 15) (.const (.string ⟨#[10]⟩)))] [])))))))))
       (.set 5 (.bin .add (.var 5) (.const (.int .i64 1)))))))))
  (.seq
   (.seq
    (.call (some 16) 26 [(.var 4)] [])
   (.seq
    (.set 1 (.var 16))
   (.set 2 (.const (.int .i64 0)))))
  .ret)))))
abbrev v_asm_Text : List Nat := [0, 2, 3, 9, 4, 13, 12, 11, 6, 5, 17, 19, 7, 23, 32, 33, 37]
abbrev k_asm_Text : List (List Nat) := [[0, 4, 5, 6, 7]]
abbrev r_asm_Text : List Ex := [(.var 1), (.var 2)]
theorem ok_asm_Text : compile Tryz.prog Tryz.f12 v_asm_Text k_asm_Text = some (c_asm_Text, r_asm_Text) := by kernel_rfl

/- tipstaff/asm.read -/
def c_asm_read : Cmd :=
  (.seq
   (.seq
    (.set 1 (.const (.slice none 0 0)))
   (.set 2 (.const (.bool false))))
  (.seq
   (.seq
    (.call (some 3) 34 [(.var 0), (.const (.string ⟨#[32]⟩))] [])
   (.seq
    (.chk [(.upd 0 1 (.const (.agg #[(.slice none 0 0), (.bool false)])) (.var 3))])
   (.seq
    (.new (some 4) 78 (.upd 0 1 (.const (.agg #[(.slice none 0 0), (.bool false)])) (.var 3)) [])
   (.set 5 (.var 4)))))
  (.seq
   (.seq
    (.call (some 6) 36 [(.var 5)] [])
   (.seq
    (.call (some 7) 35 [(.var 5), (.var 6)] [])
   (.set 8 (.var 7))))
  (.seq
   (.seq
    (.seq
     (.set 10 (.pick (.ld none (.offp 1 (.nn (.var 5)))) (.const (.bool true)) (.bin .gtr (.len false (.ld none (.offp 0 (.nn (.var 5))))) (.const (.int .i64 0)))))
    (.seq
     (.chk [(.pick (.var 10) (.const (.bool false)) (.var 8))])
    (.cond (.pick (.var 10) (.const (.bool false)) (.const (.bool true)))
      (.call (some 9) 21 [(.var 8)] [])
      (.clr [9]))))
   (.cond (.pick (.var 10) (.const (.bool true)) (.un .not (.var 9)))
     (.seq
      (.seq
       (.set 1 (.const (.slice none 0 0)))
      (.set 2 (.const (.bool false))))
     .ret)
     .skip))
  (.seq
   (.seq
    (.call (some 11) 12 [(.var 8)] [])
   (.seq
    (.chk [(.proj 1 (.var 11))])
   (.seq
    (.set 12 (.proj 0 (.var 11)))
   (.set 13 (.proj 1 (.var 11))))))
  (.seq
   (.seq
    (.chk [(.pick (.bin .eql (.var 13) (.const (.int .i64 0))) (.bin .eql (.var 12) (.bin .add (.var 0) (.const (.string ⟨#[10]⟩)))) (.const (.bool false))), (.pick (.bin .eql (.var 13) (.const (.int .i64 0))) (.bin .eql (.var 12) (.bin .add (.var 0) (.const (.string ⟨#[10]⟩)))) (.const (.bool false))), (.pick (.bin .eql (.var 13) (.const (.int .i64 0))) (.bin .add (.var 0) (.const (.string ⟨#[10]⟩))) (.const (.bool false)))])
   (.seq
    (.set 1 (.var 8))
   (.set 2 (.pick (.bin .eql (.var 13) (.const (.int .i64 0))) (.bin .eql (.var 12) (.bin .add (.var 0) (.const (.string ⟨#[10]⟩)))) (.const (.bool false))))))
  .ret))))))
abbrev v_asm_read : List Nat := [0, 2, 3, 9, 11, 4, 14, 15, 5, 30, 28, 35, 6, 7]
abbrev k_asm_read : List (List Nat) := []
abbrev r_asm_read : List Ex := [(.var 1), (.var 2)]
theorem ok_asm_read : compile Tryz.prog Tryz.f20 v_asm_read k_asm_read = some (c_asm_read, r_asm_read) := by kernel_rfl

/- tipstaff/asm.inShape -/
def c_asm_inShape : Cmd :=
  (.seq
   (.set 1 (.const (.bool false)))
  (.seq
   (.cond (.pick (.bin .eql (.len false (.var 0)) (.const (.int .i64 0))) (.const (.bool true)) (.bin .gtr (.len false (.var 0)) (.const (.int .i64 256))))
     (.seq
      (.set 1 (.const (.bool false)))
     .ret)
     .skip)
  (.seq
   (.seq
    (.seq
     (.set 4 (.var 0))
    (.seq
     (.set 3 (.len false (.var 4)))
    (.set 2 (.const (.int .i64 0)))))
   (.block 0
     (.loop [0, 2, 3, 4]
       (.seq
        (.cond (.bin .lss (.var 2) (.var 3))
          .skip
          (.exit 0))
       (.seq
        (.block 1
          (.seq
           (.seq
            (.set 7 (.ld (some 5) (.ixSl 5 (.var 4) (.var 2))))
           (.seq
            (.new (some 5) 39 (.const (.agg #[(.int .u8 0), (.int .u8 0), (.int .u8 0), (.int .i16 0), (.int .i32 0)])) [])
           (.seq
            (.set 6 (.var 2))
           (.store 5 (.var 5) (.var 7) []))))
          (.seq
           (.seq
            (.seq
             (.call (some 8) 22 [(.ld (some 5) (.var 5))] [])
            (.set 9 (.var 8)))
           (.cond (.bin .eql (.var 9) (.const (.int .i64 10)))
             (.seq
              (.seq
               (.seq
                (.chk [(.pick (.bin .eql (.var 6) (.const (.int .i64 0))) (.const (.bool false)) (.ld (some 5) (.ixSl 5 (.var 0) (.bin .sub (.var 6) (.const (.int .i64 1))))))])
               (.cond (.pick (.bin .eql (.var 6) (.const (.int .i64 0))) (.const (.bool false)) (.const (.bool true)))
                 (.call (some 10) 22 [(.ld (some 5) (.ixSl 5 (.var 0) (.bin .sub (.var 6) (.const (.int .i64 1)))))] [])
                 (.clr [10])))
              (.cond (.pick (.bin .eql (.var 6) (.const (.int .i64 0))) (.const (.bool true)) (.bin .neq (.var 10) (.const (.int .i64 9))))
                (.seq
                 (.set 1 (.const (.bool false)))
                .ret)
                .skip))
             (.exit 1))
             .skip))
          (.seq
           (.call (some 11) 37 [(.slSl 5 (.var 0) (.var 6) (.len false (.var 0)))] [])
          (.cond (.un .not (.var 11))
            (.seq
             (.set 1 (.const (.bool false)))
            .ret)
            .skip)))))
       (.set 2 (.bin .add (.var 2) (.const (.int .i64 1)))))))))
  (.seq
   (.set 1 (.const (.bool true)))
  .ret))))
abbrev v_asm_inShape : List Nat := [0, 2, 16, 15, 14, 4, 3, 20, 22, 5, 33, 39]
abbrev k_asm_inShape : List (List Nat) := [[0, 2, 3, 4]]
abbrev r_asm_inShape : List Ex := [(.var 1)]
theorem ok_asm_inShape : compile Tryz.prog Tryz.f21 v_asm_inShape k_asm_inShape = some (c_asm_inShape, r_asm_inShape) := by kernel_rfl

/- tipstaff/asm.kind -/
def c_asm_kind : Cmd :=
  (.seq
   (.seq
    (.new (some 2) 39 (.var 0) [])
   (.set 1 (.const (.int .i64 0))))
  (.seq
   (.seq
    (.call (some 3) 38 [(.ld none (.offp 0 (.var 2)))] [])
   (.set 1 (.part none 0 (.var 3))))
  .ret))
abbrev v_asm_kind : List Nat := [0, 2, 1, 5]
abbrev k_asm_kind : List (List Nat) := []
abbrev r_asm_kind : List Ex := [(.var 1)]
theorem ok_asm_kind : compile Tryz.prog Tryz.f22 v_asm_kind k_asm_kind = some (c_asm_kind, r_asm_kind) := by kernel_rfl

/- tipstaff/asm.line -/
def c_asm_line : Cmd :=
  (.seq
   (.seq
    (.new (some 3) 39 (.var 0) [])
   (.seq
    (.new (some 4) 39 (.var 1) [])
   (.set 2 (.const (.slice none 0 0)))))
  (.seq
   (.seq
    (.call (some 5) 38 [(.ld none (.offp 0 (.var 3)))] [])
   (.seq
    (.new (some 6) 80 (.const (.agg #[(.int .i64 0), (.int .i64 0), (.int .i64 0), (.bool false), (.bool false)])) [])
   (.store 5 (.var 6) (.var 5) [])))
  (.seq
   (.seq
    (.call (some 7) 41 [(.ld none (.offp 2 (.var 6)))] [])
   (.set 8 (.var 7)))
  (.seq
   (.seq
    (.set 9 (.ld none (.offp 0 (.var 6))))
   (.block 0
     (.seq
      (.set 10 (.bin .eql (.var 9) (.const (.int .i64 1))))
     (.cond (.var 10)
       (.seq
        (.cond (.bin .eql (.ld none (.offp 1 (.var 6))) (.const (.int .i64 8)))
          (.seq
           (.seq
            .draw
           (.seq
            (.set 79 (.ld none (.offp 1 (.var 6))))
           (.seq
            (.chk [(.ixArr 13 1 (.const (.pointer (some ⟨0, 0, none⟩))) (.var 79))])
           (.seq
            (.set 12 (.ld none (.ixArr 13 1 (.const (.pointer (some ⟨0, 0, none⟩))) (.var 79))))
           (.seq
            (.chk [(.ld (some 5) (.var 6))])
           (.seq
            (.set 13 (.ld none (.offp 1 (.var 3))))
           (.seq
            (.call (some 11) 42 [(.ld (some 5) (.var 6))] [(.ld none (.offp 1 (.var 3))), (.ld none (.ixArr 13 1 (.const (.pointer (some ⟨0, 0, none⟩))) (.var 79))), (.ld none (.offp 1 (.var 6)))])
           (.seq
            (.set 15 (.bin .add (.var 12) (.var 11)))
           (.seq
            (.call (some 14) 43 [(.var 13)] [(.ld none (.ixArr 13 1 (.const (.pointer (some ⟨0, 0, none⟩))) (.var 79))), (.ld none (.offp 1 (.var 6)))])
           (.seq
            (.row (some 16) 9 2 (.upd 1 1 (.upd 0 1 (.const (.agg #[(.string ⟨#[]⟩), (.string ⟨#[]⟩)])) (.var 15)) (.var 14)) [])
           (.set 2 (.var 16))))))))))))
          .ret)
          .skip)
       (.seq
        (.seq
         .draw
        (.seq
         (.set 80 (.ld none (.offp 1 (.var 6))))
        (.seq
         (.chk [(.ixArr 13 1 (.const (.pointer (some ⟨0, 0, none⟩))) (.var 80))])
        (.seq
         (.set 18 (.ld none (.ixArr 13 1 (.const (.pointer (some ⟨0, 0, none⟩))) (.var 80))))
        (.seq
         (.chk [(.ld (some 5) (.var 6))])
        (.seq
         (.set 19 (.ld none (.offp 1 (.var 3))))
        (.seq
         (.set 21 (.ld (some 5) (.var 3)))
        (.seq
         (.set 22 (.ld (some 5) (.var 6)))
        (.seq
         (.call (some 17) 42 [(.ld (some 5) (.var 6))] [(.ld (some 5) (.var 6)), (.ld (some 5) (.var 3)), (.ld none (.offp 1 (.var 3))), (.ld none (.ixArr 13 1 (.const (.pointer (some ⟨0, 0, none⟩))) (.var 80))), (.ld none (.offp 1 (.var 6)))])
        (.seq
         (.set 24 (.bin .add (.var 18) (.var 17)))
        (.seq
         (.call (some 20) 43 [(.var 19)] [(.ld (some 5) (.var 6)), (.ld (some 5) (.var 3)), (.ld none (.ixArr 13 1 (.const (.pointer (some ⟨0, 0, none⟩))) (.var 80))), (.ld none (.offp 1 (.var 6)))])
        (.seq
         (.call (some 23) 44 [(.var 21), (.var 22)] [(.ld none (.ixArr 13 1 (.const (.pointer (some ⟨0, 0, none⟩))) (.var 80))), (.ld none (.offp 1 (.var 6)))])
        (.seq
         (.row (some 25) 9 3 (.upd 2 1 (.upd 1 1 (.upd 0 1 (.const (.agg #[(.string ⟨#[]⟩), (.string ⟨#[]⟩), (.string ⟨#[]⟩)])) (.var 24)) (.var 20)) (.var 23)) [])
        (.set 2 (.var 25)))))))))))))))
       .ret))
       (.seq
        (.set 26 (.bin .eql (.var 9) (.const (.int .i64 2))))
       (.cond (.var 26)
         (.seq
          (.seq
           .draw
          (.seq
           (.set 81 (.ld none (.offp 1 (.var 6))))
          (.seq
           (.chk [(.ixArr 14 1 (.const (.pointer (some ⟨1, 0, none⟩))) (.var 81))])
          (.seq
           (.set 28 (.ld none (.ixArr 14 1 (.const (.pointer (some ⟨1, 0, none⟩))) (.var 81))))
          (.seq
           (.chk [(.ld (some 5) (.var 6))])
          (.seq
           (.set 29 (.ld none (.offp 1 (.var 3))))
          (.seq
           (.set 31 (.ld (some 5) (.var 3)))
          (.seq
           (.set 32 (.ld (some 5) (.var 6)))
          (.seq
           (.set 34 (.ld none (.offp 3 (.var 3))))
          (.seq
           (.call (some 27) 42 [(.ld (some 5) (.var 6))] [(.ld none (.offp 3 (.var 3))), (.ld (some 5) (.var 6)), (.ld (some 5) (.var 3)), (.ld none (.offp 1 (.var 3))), (.ld none (.ixArr 14 1 (.const (.pointer (some ⟨1, 0, none⟩))) (.var 81))), (.ld none (.offp 1 (.var 6)))])
          (.seq
           (.set 36 (.bin .add (.var 28) (.var 27)))
          (.seq
           (.call (some 30) 43 [(.var 29)] [(.ld none (.offp 3 (.var 3))), (.ld (some 5) (.var 6)), (.ld (some 5) (.var 3)), (.ld none (.ixArr 14 1 (.const (.pointer (some ⟨1, 0, none⟩))) (.var 81))), (.ld none (.offp 1 (.var 6)))])
          (.seq
           (.call (some 33) 44 [(.var 31), (.var 32)] [(.ld none (.offp 3 (.var 3))), (.ld none (.ixArr 14 1 (.const (.pointer (some ⟨1, 0, none⟩))) (.var 81))), (.ld none (.offp 1 (.var 6)))])
          (.seq
           (.call (some 35) 45 [(.var 34)] [(.ld none (.ixArr 14 1 (.const (.pointer (some ⟨1, 0, none⟩))) (.var 81))), (.ld none (.offp 1 (.var 6)))])
          (.seq
           (.row (some 37) 9 4 (.upd 3 1 (.upd 2 1 (.upd 1 1 (.upd 0 1 (.const (.agg (Array.replicate 4 (.string ⟨#[]⟩)))) (.var 36)) (.var 30)) (.var 33)) (.var 35)) [])
          (.set 2 (.var 37)))))))))))))))))
         .ret)
         (.seq
          (.set 38 (.bin .eql (.var 9) (.const (.int .i64 3))))
         (.cond (.var 38)
           (.seq
            (.seq
             (.call (some 39) 45 [(.ld none (.offp 3 (.var 3)))] [])
            (.seq
             (.row (some 40) 9 2 (.upd 1 1 (.upd 0 1 (.const (.agg #[(.string ⟨#[]⟩), (.string ⟨#[]⟩)])) (.const (.string ⟨#[106, 97]⟩))) (.var 39)) [])
            (.set 2 (.var 40))))
           .ret)
           (.seq
            (.set 41 (.bin .eql (.var 9) (.const (.int .i64 4))))
           (.cond (.var 41)
             (.seq
              (.seq
               (.call (some 42) 41 [(.conv .i64 (.ld none (.offp 4 (.var 3))))] [])
              (.seq
               (.row (some 43) 9 2 (.upd 1 1 (.upd 0 1 (.const (.agg #[(.string ⟨#[]⟩), (.string ⟨#[]⟩)])) (.const (.string ⟨#[99, 97, 108, 108]⟩))) (.var 42)) [])
              (.set 2 (.var 43))))
             .ret)
             (.seq
              (.set 44 (.bin .eql (.var 9) (.const (.int .i64 5))))
             (.cond (.var 44)
               (.seq
                (.seq
                 (.row (some 45) 9 1 (.upd 0 1 (.const (.agg #[(.string ⟨#[]⟩)])) (.const (.string ⟨#[101, 120, 105, 116]⟩))) [])
                (.set 2 (.var 45)))
               .ret)
               (.seq
                (.set 46 (.bin .eql (.var 9) (.const (.int .i64 6))))
               (.cond (.var 46)
                 (.seq
                  (.seq
                   .draw
                  (.seq
                   (.chk [(.ld none (.offp 1 (.var 3))), (.bin .add (.const (.string ⟨#[108, 100]⟩)) (.var 8))])
                  (.seq
                   (.set 48 (.ld none (.offp 2 (.var 3))))
                  (.seq
                   (.set 50 (.ld none (.offp 3 (.var 3))))
                  (.seq
                   (.call (some 47) 43 [(.ld none (.offp 1 (.var 3)))] [(.ld none (.offp 3 (.var 3))), (.ld none (.offp 2 (.var 3)))])
                  (.seq
                   (.call (some 49) 43 [(.var 48)] [(.ld none (.offp 3 (.var 3)))])
                  (.seq
                   (.call (some 51) 45 [(.var 50)] [])
                  (.seq
                   (.row (some 52) 9 4 (.upd 3 1 (.upd 2 1 (.upd 1 1 (.upd 0 1 (.const (.agg (Array.replicate 4 (.string ⟨#[]⟩)))) (.bin .add (.const (.string ⟨#[108, 100]⟩)) (.var 8))) (.var 47)) (.var 49)) (.var 51)) [])
                  (.set 2 (.var 52))))))))))
                 .ret)
                 (.seq
                  (.set 53 (.bin .eql (.var 9) (.const (.int .i64 7))))
                 (.cond (.var 53)
                   (.seq
                    (.seq
                     .draw
                    (.seq
                     (.chk [(.ld none (.offp 1 (.var 3))), (.bin .add (.const (.string ⟨#[115, 116]⟩)) (.var 8))])
                    (.seq
                     (.set 55 (.ld none (.offp 3 (.var 3))))
                    (.seq
                     (.set 57 (.ld (some 5) (.var 3)))
                    (.seq
                     (.set 58 (.ld (some 5) (.var 6)))
                    (.seq
                     (.call (some 54) 43 [(.ld none (.offp 1 (.var 3)))] [(.ld (some 5) (.var 6)), (.ld (some 5) (.var 3)), (.ld none (.offp 3 (.var 3)))])
                    (.seq
                     (.call (some 56) 45 [(.var 55)] [(.ld (some 5) (.var 6)), (.ld (some 5) (.var 3))])
                    (.seq
                     (.call (some 59) 44 [(.var 57), (.var 58)] [])
                    (.seq
                     (.row (some 60) 9 4 (.upd 3 1 (.upd 2 1 (.upd 1 1 (.upd 0 1 (.const (.agg (Array.replicate 4 (.string ⟨#[]⟩)))) (.bin .add (.const (.string ⟨#[115, 116]⟩)) (.var 8))) (.var 54)) (.var 56)) (.var 59)) [])
                    (.set 2 (.var 60)))))))))))
                   .ret)
                   (.seq
                    (.set 61 (.bin .eql (.var 9) (.const (.int .i64 8))))
                   (.cond (.var 61)
                     (.seq
                      (.seq
                       .draw
                      (.seq
                       (.chk [(.var 8), (.ld none (.offp 4 (.var 3))), (.slArr 4 1 (.const (.pointer (some ⟨3, 0, none⟩))) (.const (.int .i64 0)) (.const (.int .i64 4)))])
                      (.seq
                       (.set 63 (.ld none (.offp 1 (.var 3))))
                      (.seq
                       (.set 65 (.ld none (.offp 3 (.var 3))))
                      (.seq
                       (.set 67 (.ld none (.offp 2 (.var 3))))
                      (.seq
                       (.call (some 62) 46 [(.slArr 4 1 (.const (.pointer (some ⟨3, 0, none⟩))) (.const (.int .i64 0)) (.const (.int .i64 4))), (.ld none (.offp 4 (.var 3)))] [(.ld none (.offp 2 (.var 3))), (.ld none (.offp 3 (.var 3))), (.ld none (.offp 1 (.var 3)))])
                      (.seq
                       (.chk [(.ld none (.ixArr 4 1 (.const (.pointer (some ⟨2, 0, none⟩))) (.var 62))), (.ixArr 4 1 (.const (.pointer (some ⟨2, 0, none⟩))) (.var 62))])
                      (.seq
                       (.set 69 (.bin .add (.ld none (.ixArr 4 1 (.const (.pointer (some ⟨2, 0, none⟩))) (.var 62))) (.var 8)))
                      (.seq
                       (.call (some 64) 43 [(.var 63)] [(.ld none (.ixArr 4 1 (.const (.pointer (some ⟨2, 0, none⟩))) (.var 62))), (.ld none (.offp 2 (.var 3))), (.ld none (.offp 3 (.var 3)))])
                      (.seq
                       (.call (some 66) 45 [(.var 65)] [(.ld none (.ixArr 4 1 (.const (.pointer (some ⟨2, 0, none⟩))) (.var 62))), (.ld none (.offp 2 (.var 3)))])
                      (.seq
                       (.call (some 68) 43 [(.var 67)] [(.ld none (.ixArr 4 1 (.const (.pointer (some ⟨2, 0, none⟩))) (.var 62)))])
                      (.seq
                       (.row (some 70) 9 4 (.upd 3 1 (.upd 2 1 (.upd 1 1 (.upd 0 1 (.const (.agg (Array.replicate 4 (.string ⟨#[]⟩)))) (.var 69)) (.var 64)) (.var 66)) (.var 68)) [])
                      (.set 2 (.var 70))))))))))))))
                     .ret)
                     .skip))))))))))))))))))
  (.seq
   (.cond (.bin .eql (.ld none (.offp 2 (.var 3))) (.const (.int .u8 1)))
     (.seq
      (.seq
       .draw
      (.seq
       (.chk [(.ld none (.offp 1 (.var 3)))])
      (.seq
       (.set 72 (.conv .i64 (.ld none (.offp 4 (.var 3)))))
      (.seq
       (.call (some 71) 43 [(.ld none (.offp 1 (.var 3)))] [(.ld none (.offp 4 (.var 3)))])
      (.seq
       (.call (some 73) 41 [(.var 72)] [])
      (.seq
       (.row (some 74) 9 3 (.upd 2 1 (.upd 1 1 (.upd 0 1 (.const (.agg #[(.string ⟨#[]⟩), (.string ⟨#[]⟩), (.string ⟨#[]⟩)])) (.const (.string ⟨#[109, 97, 112]⟩))) (.var 71)) (.var 73)) [])
      (.set 2 (.var 74))))))))
     .ret)
     .skip)
  (.seq
   (.set 75 (.bin .or (.conv .u64 (.conv .u32 (.ld none (.offp 4 (.var 3))))) (.bin .shl (.conv .u64 (.conv .u32 (.ld none (.offp 4 (.var 4))))) (.const (.int .u64 32)))))
  (.seq
   (.seq
    (.call (some 76) 43 [(.ld none (.offp 1 (.var 3)))] [])
   (.seq
    (.call (some 77) 47 [(.var 75), (.const (.int .i64 10))] [])
   (.seq
    (.row (some 78) 9 3 (.upd 2 1 (.upd 1 1 (.upd 0 1 (.const (.agg #[(.string ⟨#[]⟩), (.string ⟨#[]⟩), (.string ⟨#[]⟩)])) (.const (.string ⟨#[119, 105, 100, 101]⟩))) (.var 76)) (.var 77)) [])
   (.set 2 (.var 78)))))
  .ret)))))))
abbrev v_asm_line : List Nat := [0, 1, 4, 2, 3, 10, 5, 13, 6, 15, 16, 26, 24, 29, 30, 27, 31, 37, 35, 40, 41, 42, 43, 44, 38, 45, 46, 53, 51, 56, 57, 58, 59, 60, 62, 63, 54, 64, 65, 69, 70, 71, 76, 77, 78, 80, 81, 87, 89, 90, 92, 93, 94, 95, 101, 103, 104, 105, 106, 107, 108, 109, 114, 120, 121, 123, 124, 126, 127, 118, 128, 134, 137, 138, 139, 7, 152, 154, 155, 22, 33, 49]
abbrev k_asm_line : List (List Nat) := []
abbrev r_asm_line : List Ex := [(.var 2)]
theorem ok_asm_line : compile Tryz.prog Tryz.f25 v_asm_line k_asm_line = some (c_asm_line, r_asm_line) := by kernel_rfl

/- tipstaff/asm.alone -/
def c_asm_alone : Cmd :=
  (.seq
   (.set 1 (.const (.bool false)))
  (.seq
   (.seq
    (.call (some 2) 60 [(.slSl 5 (.var 0) (.const (.int .i64 0)) (.const (.int .i64 1)))] [])
   (.set 3 (.var 2)))
  (.seq
   (.seq
    (.call (some 4) 22 [(.ld (some 5) (.ixSl 5 (.var 0) (.const (.int .i64 0))))] [])
   (.cond (.bin .eql (.var 4) (.const (.int .i64 9)))
     (.seq
      (.call (some 5) 60 [(.slSl 5 (.var 0) (.const (.int .i64 0)) (.mn (.len false (.var 0)) (.const (.int .i64 2))))] [])
     (.set 3 (.var 5)))
     .skip))
  (.seq
   (.seq
    (.seq
     (.call (some 6) 22 [(.ld (some 5) (.ixSl 5 (.var 0) (.const (.int .i64 0))))] [])
    (.set 7 (.var 6)))
   (.cond (.pick (.bin .eql (.var 7) (.const (.int .i64 2))) (.const (.bool true)) (.bin .eql (.var 7) (.const (.int .i64 3))))
     (.store 1 (.offp 3 (.ixSl 5 (.var 3) (.const (.int .i64 0)))) (.const (.int .i16 0)) [])
     .skip))
  (.seq
   (.seq
    (.chk [(.upd 0 1 (.const (.agg #[(.int .u8 0), (.int .u8 0), (.int .u8 0), (.int .i16 0), (.int .i32 0)])) (.const (.int .u8 149))), (.var 3)])
   (.seq
    (.row (some 8) 39 1 (.upd 0 5 (.const (.agg #[(.int .u8 0), (.int .u8 0), (.int .u8 0), (.int .i16 0), (.int .i32 0)])) (.upd 0 1 (.const (.agg #[(.int .u8 0), (.int .u8 0), (.int .u8 0), (.int .i16 0), (.int .i32 0)])) (.const (.int .u8 149)))) [])
   (.seq
    (.bi (some 9) .append [23, 23] 23 [(.var 3), (.var 8)] [])
   (.seq
    (.call (some 10) 61 [(.var 9)] [])
   (.seq
    (.chk [(.proj 1 (.var 10))])
   (.seq
    (.set 11 (.proj 0 (.var 10)))
   (.set 12 (.proj 1 (.var 10)))))))))
  (.seq
   (.set 1 (.bin .eql (.var 12) (.const (.int .i64 0))))
  .ret))))))
abbrev v_asm_alone : List Nat := [0, 2, 9, 3, 13, 20, 24, 4, 37, 38, 39, 5, 6]
abbrev k_asm_alone : List (List Nat) := []
abbrev r_asm_alone : List Ex := [(.var 1)]
theorem ok_asm_alone : compile Tryz.prog Tryz.f37 v_asm_alone k_asm_alone = some (c_asm_alone, r_asm_alone) := by kernel_rfl

/- tipstaff/asm.short -/
def c_asm_short : Cmd :=
  (.seq
   (.seq
    (.new (some 2) 80 (.var 0) [])
   (.set 1 (.const (.string ⟨#[]⟩))))
  (.seq
   (.cond (.ld none (.offp 3 (.var 2)))
     (.seq
      (.set 1 (.const (.string ⟨#[]⟩)))
     .ret)
     .skip)
  (.seq
   (.seq
    (.call (some 3) 41 [(.const (.int .i64 32))] [])
   (.set 1 (.var 3)))
  .ret)))
abbrev v_asm_short : List Nat := [0, 2, 1, 5]
abbrev k_asm_short : List (List Nat) := []
abbrev r_asm_short : List Ex := [(.var 1)]
theorem ok_asm_short : compile Tryz.prog Tryz.f42 v_asm_short k_asm_short = some (c_asm_short, r_asm_short) := by kernel_rfl

/- tipstaff/asm.reg -/
def c_asm_reg : Cmd :=
  (.seq
   (.set 1 (.const (.string ⟨#[]⟩)))
  (.seq
   (.seq
    (.call (some 2) 41 [(.conv .i64 (.var 0))] [])
   (.seq
    (.chk [(.bin .add (.const (.string ⟨#[114]⟩)) (.var 2))])
   (.set 1 (.bin .add (.const (.string ⟨#[114]⟩)) (.var 2)))))
  .ret))
abbrev v_asm_reg : List Nat := [0, 2, 5]
abbrev k_asm_reg : List (List Nat) := []
abbrev r_asm_reg : List Ex := [(.var 1)]
theorem ok_asm_reg : compile Tryz.prog Tryz.f43 v_asm_reg k_asm_reg = some (c_asm_reg, r_asm_reg) := by kernel_rfl

/- tipstaff/asm.second -/
def c_asm_second : Cmd :=
  (.seq
   (.seq
    (.new (some 3) 39 (.var 0) [])
   (.seq
    (.new (some 4) 80 (.var 1) [])
   (.set 2 (.const (.string ⟨#[]⟩)))))
  (.seq
   (.cond (.ld none (.offp 4 (.var 4)))
     (.seq
      (.seq
       (.call (some 5) 43 [(.ld none (.offp 2 (.var 3)))] [])
      (.set 2 (.var 5)))
     .ret)
     .skip)
  (.seq
   (.seq
    (.call (some 6) 41 [(.conv .i64 (.ld none (.offp 4 (.var 3))))] [])
   (.set 2 (.var 6)))
  .ret)))
abbrev v_asm_second : List Nat := [0, 1, 4, 2, 3, 9, 13]
abbrev k_asm_second : List (List Nat) := []
abbrev r_asm_second : List Ex := [(.var 2)]
theorem ok_asm_second : compile Tryz.prog Tryz.f44 v_asm_second k_asm_second = some (c_asm_second, r_asm_second) := by kernel_rfl

/- tipstaff/asm.offset -/
def c_asm_offset : Cmd :=
  (.seq
   (.set 1 (.const (.string ⟨#[]⟩)))
  (.seq
   (.cond (.bin .lss (.var 0) (.const (.int .i16 0)))
     (.seq
      (.seq
       (.call (some 2) 41 [(.conv .i64 (.var 0))] [])
      (.set 1 (.var 2)))
     .ret)
     .skip)
  (.seq
   (.seq
    (.call (some 3) 41 [(.conv .i64 (.var 0))] [])
   (.seq
    (.chk [(.bin .add (.const (.string ⟨#[43]⟩)) (.var 3))])
   (.set 1 (.bin .add (.const (.string ⟨#[43]⟩)) (.var 3)))))
  .ret)))
abbrev v_asm_offset : List Nat := [0, 2, 7, 10]
abbrev k_asm_offset : List (List Nat) := []
abbrev r_asm_offset : List Ex := [(.var 1)]
theorem ok_asm_offset : compile Tryz.prog Tryz.f45 v_asm_offset k_asm_offset = some (c_asm_offset, r_asm_offset) := by kernel_rfl

/- tipstaff/asm.low -/
def c_asm_low : Cmd :=
  (.seq
   (.set 3 (.const (.int .u8 0)))
  (.seq
   (.cond (.var 2)
     (.seq
      (.set 3 (.var 1))
     .ret)
     .skip)
  (.seq
   (.set 3 (.var 0))
  .ret)))
abbrev v_asm_low : List Nat := [0, 1, 2, 6]
abbrev k_asm_low : List (List Nat) := []
abbrev r_asm_low : List Ex := [(.var 3)]
theorem ok_asm_low : compile Tryz.prog Tryz.f57 v_asm_low k_asm_low = some (c_asm_low, r_asm_low) := by kernel_rfl

/- (*tipstaff/asm.words).named -/
def c_asm_words_named : Cmd :=
  (.seq
   (.set 2 (.const (.slice none 0 0)))
  (.seq
   (.seq
    (.set 3 (.var 1))
   (.block 0
     (.seq
      (.seq
       (.chk [(.bin .eql (.var 3) (.const (.string ⟨#[101, 120, 105, 116]⟩)))])
      (.set 4 (.bin .eql (.var 3) (.const (.string ⟨#[101, 120, 105, 116]⟩)))))
     (.cond (.var 4)
       (.seq
        (.seq
         (.chk [(.upd 0 1 (.const (.agg #[(.int .u8 0), (.int .u8 0), (.int .u8 0), (.int .i16 0), (.int .i32 0)])) (.const (.int .u8 149)))])
        (.seq
         (.row (some 5) 39 1 (.upd 0 5 (.const (.agg #[(.int .u8 0), (.int .u8 0), (.int .u8 0), (.int .i16 0), (.int .i32 0)])) (.upd 0 1 (.const (.agg #[(.int .u8 0), (.int .u8 0), (.int .u8 0), (.int .i16 0), (.int .i32 0)])) (.const (.int .u8 149)))) [])
        (.set 2 (.var 5))))
       .ret)
       (.seq
        (.seq
         (.chk [(.bin .eql (.var 3) (.const (.string ⟨#[106, 97]⟩)))])
        (.set 6 (.bin .eql (.var 3) (.const (.string ⟨#[106, 97]⟩)))))
       (.cond (.var 6)
         (.seq
          (.seq
           (.call (some 7) 51 [(.var 0)] [])
          (.seq
           (.chk [(.upd 3 1 (.upd 0 1 (.const (.agg #[(.int .u8 0), (.int .u8 0), (.int .u8 0), (.int .i16 0), (.int .i32 0)])) (.const (.int .u8 5))) (.var 7))])
          (.seq
           (.row (some 8) 39 1 (.upd 0 5 (.const (.agg #[(.int .u8 0), (.int .u8 0), (.int .u8 0), (.int .i16 0), (.int .i32 0)])) (.upd 3 1 (.upd 0 1 (.const (.agg #[(.int .u8 0), (.int .u8 0), (.int .u8 0), (.int .i16 0), (.int .i32 0)])) (.const (.int .u8 5))) (.var 7))) [])
          (.set 2 (.var 8)))))
         .ret)
         (.seq
          (.seq
           (.chk [(.bin .eql (.var 3) (.const (.string ⟨#[99, 97, 108, 108]⟩)))])
          (.set 9 (.bin .eql (.var 3) (.const (.string ⟨#[99, 97, 108, 108]⟩)))))
         (.cond (.var 9)
           (.seq
            (.seq
             (.call (some 10) 36 [(.var 0)] [])
            (.seq
             (.call (some 11) 52 [(.var 0), (.var 10), (.const (.int .i64 32))] [])
            (.seq
             (.chk [(.upd 4 1 (.upd 0 1 (.const (.agg #[(.int .u8 0), (.int .u8 0), (.int .u8 0), (.int .i16 0), (.int .i32 0)])) (.const (.int .u8 133))) (.conv .i32 (.var 11)))])
            (.seq
             (.row (some 12) 39 1 (.upd 0 5 (.const (.agg #[(.int .u8 0), (.int .u8 0), (.int .u8 0), (.int .i16 0), (.int .i32 0)])) (.upd 4 1 (.upd 0 1 (.const (.agg #[(.int .u8 0), (.int .u8 0), (.int .u8 0), (.int .i16 0), (.int .i32 0)])) (.const (.int .u8 133))) (.conv .i32 (.var 11)))) [])
            (.set 2 (.var 12))))))
           .ret)
           (.seq
            (.seq
             (.seq
              (.chk [(.bin .eql (.var 3) (.const (.string ⟨#[119, 105, 100, 101]⟩)))])
             (.set 13 (.bin .eql (.var 3) (.const (.string ⟨#[119, 105, 100, 101]⟩)))))
            (.cond (.var 13)
              .skip
              (.seq
               (.chk [(.bin .eql (.var 3) (.const (.string ⟨#[109, 97, 112]⟩)))])
              (.set 13 (.bin .eql (.var 3) (.const (.string ⟨#[109, 97, 112]⟩)))))))
           (.cond (.var 13)
             (.seq
              (.seq
               (.call (some 14) 53 [(.var 0), (.var 1)] [])
              (.set 2 (.var 14)))
             .ret)
             (.seq
              (.seq
               (.chk [(.bin .eql (.var 3) (.const (.string ⟨#[]⟩)))])
              (.set 15 (.bin .eql (.var 3) (.const (.string ⟨#[]⟩)))))
             (.cond (.var 15)
               (.seq
                (.store 1 (.offp 1 (.nn (.var 0))) (.const (.bool true)) [])
               (.seq
                (.set 2 (.const (.slice none 0 0)))
               .ret))
               .skip))))))))))))
  (.seq
   (.seq
    (.call (some 16) 54 [(.var 1), (.const (.string ⟨#[51, 50]⟩))] [])
   (.seq
    (.chk [(.proj 1 (.var 16))])
   (.seq
    (.set 17 (.proj 0 (.var 16)))
   (.set 18 (.proj 1 (.var 16))))))
  (.seq
   (.seq
    (.seq
     (.chk [(.slArr 13 1 (.const (.pointer (some ⟨0, 0, none⟩))) (.const (.int .i64 0)) (.const (.int .i64 13)))])
    (.seq
     (.call (some 19) 55 [(.slArr 13 1 (.const (.pointer (some ⟨0, 0, none⟩))) (.const (.int .i64 0)) (.const (.int .i64 13))), (.var 17)] [])
    (.set 20 (.var 19))))
   (.cond (.bin .geq (.var 20) (.const (.int .i64 0)))
     (.seq
      (.seq
       (.chk [(.var 20), (.var 0)])
      (.seq
       (.call (some 21) 57 [(.const (.int .u8 7)), (.const (.int .u8 4)), (.var 18)] [])
      (.seq
       (.call (some 22) 56 [(.var 0), (.var 20), (.var 21)] [])
      (.seq
       (.row (some 23) 39 1 (.upd 0 5 (.const (.agg #[(.int .u8 0), (.int .u8 0), (.int .u8 0), (.int .i16 0), (.int .i32 0)])) (.var 22)) [])
      (.set 2 (.var 23))))))
     .ret)
     .skip))
  (.seq
   (.seq
    (.seq
     (.chk [(.slArr 14 1 (.const (.pointer (some ⟨1, 0, none⟩))) (.const (.int .i64 0)) (.const (.int .i64 14)))])
    (.seq
     (.call (some 24) 55 [(.slArr 14 1 (.const (.pointer (some ⟨1, 0, none⟩))) (.const (.int .i64 0)) (.const (.int .i64 14))), (.var 17)] [])
    (.set 25 (.var 24))))
   (.cond (.bin .gtr (.var 25) (.const (.int .i64 0)))
     (.seq
      (.seq
       (.chk [(.var 25), (.var 0)])
      (.seq
       (.call (some 26) 57 [(.const (.int .u8 5)), (.const (.int .u8 6)), (.var 18)] [])
      (.seq
       (.call (some 27) 58 [(.var 0), (.var 25), (.var 26)] [])
      (.seq
       (.row (some 28) 39 1 (.upd 0 5 (.const (.agg #[(.int .u8 0), (.int .u8 0), (.int .u8 0), (.int .i16 0), (.int .i32 0)])) (.var 27)) [])
      (.set 2 (.var 28))))))
     .ret)
     .skip))
  (.seq
   (.set 29 (.bin .sub (.len true (.var 1)) (.const (.int .i64 1))))
  (.seq
   (.seq
    .draw
   (.seq
    (.chk [(.slArr 4 1 (.const (.pointer (some ⟨4, 0, none⟩))) (.const (.int .i64 0)) (.const (.int .i64 4)))])
   (.seq
    (.call (some 30) 55 [(.slArr 4 1 (.const (.pointer (some ⟨4, 0, none⟩))) (.const (.int .i64 0)) (.const (.int .i64 4))), (.slStr (.var 1) (.var 29) (.len true (.var 1)))] [])
   (.set 31 (.var 30)))))
  (.seq
   (.cond (.bin .lss (.var 31) (.const (.int .i64 0)))
     (.seq
      (.store 1 (.offp 1 (.nn (.var 0))) (.const (.bool true)) [])
     (.seq
      (.set 2 (.const (.slice none 0 0)))
     .ret))
     .skip)
  (.seq
   (.seq
    (.call (some 32) 59 [(.var 0), (.slStr (.var 1) (.const (.int .i64 0)) (.var 29)), (.conv .u8 (.var 31))] [])
   (.seq
    (.row (some 33) 39 1 (.upd 0 5 (.const (.agg #[(.int .u8 0), (.int .u8 0), (.int .u8 0), (.int .i16 0), (.int .i32 0)])) (.var 32)) [])
   (.set 2 (.var 33))))
  .ret)))))))))
abbrev v_asm_words_named : List Nat := [0, 1, 4, 11, 12, 15, 16, 19, 21, 22, 26, 27, 30, 31, 36, 37, 44, 5, 6, 49, 7, 55, 56, 57, 60, 8, 66, 67, 68, 9, 76, 10, 88, 89]
abbrev k_asm_words_named : List (List Nat) := []
abbrev r_asm_words_named : List Ex := [(.var 2)]
theorem ok_asm_words_named : compile Tryz.prog Tryz.f35 v_asm_words_named k_asm_words_named = some (c_asm_words_named, r_asm_words_named) := by kernel_rfl

/- (*tipstaff/asm.words).next -/
def c_asm_words_next : Cmd :=
  (.seq
   (.set 1 (.const (.string ⟨#[]⟩)))
  (.seq
   (.cond (.bin .eql (.len false (.ld none (.offp 0 (.nn (.var 0))))) (.const (.int .i64 0)))
     (.seq
      (.store 1 (.offp 1 (.nn (.var 0))) (.const (.bool true)) [])
     (.seq
      (.set 1 (.const (.string ⟨#[]⟩)))
     .ret))
     .skip)
  (.seq
   (.set 2 (.ld none (.ixSl 1 (.ld none (.offp 0 (.nn (.var 0)))) (.const (.int .i64 0)))))
  (.seq
   (.store 1 (.offp 0 (.nn (.var 0))) (.slSl 1 (.ld none (.offp 0 (.nn (.var 0)))) (.const (.int .i64 1)) (.len false (.ld none (.offp 0 (.nn (.var 0)))))) [])
  (.seq
   (.set 1 (.var 2))
  .ret)))))
abbrev v_asm_words_next : List Nat := [0, 2, 3]
abbrev k_asm_words_next : List (List Nat) := []
abbrev r_asm_words_next : List Ex := [(.var 1)]
theorem ok_asm_words_next : compile Tryz.prog Tryz.f36 v_asm_words_next k_asm_words_next = some (c_asm_words_next, r_asm_words_next) := by kernel_rfl

/- (*tipstaff/asm.words).offset -/
def c_asm_words_offset : Cmd :=
  (.seq
   (.set 1 (.const (.int .i16 0)))
  (.seq
   (.seq
    (.call (some 2) 36 [(.var 0)] [])
   (.seq
    (.call (some 3) 52 [(.var 0), (.var 2), (.const (.int .i64 16))] [])
   (.set 1 (.conv .i16 (.var 3)))))
  .ret))
abbrev v_asm_words_offset : List Nat := [0, 2, 5, 6]
abbrev k_asm_words_offset : List (List Nat) := []
abbrev r_asm_words_offset : List Ex := [(.var 1)]
theorem ok_asm_words_offset : compile Tryz.prog Tryz.f51 v_asm_words_offset k_asm_words_offset = some (c_asm_words_offset, r_asm_words_offset) := by kernel_rfl

/- (*tipstaff/asm.words).number -/
def c_asm_words_number : Cmd :=
  (.seq
   (.set 3 (.const (.int .i64 0)))
  (.seq
   (.seq
    (.call (some 4) 78 [(.var 1), (.const (.int .i64 10)), (.var 2)] [])
   (.seq
    (.chk [(.proj 1 (.var 4))])
   (.seq
    (.set 5 (.proj 0 (.var 4)))
   (.set 6 (.proj 1 (.var 4))))))
  (.seq
   (.store 1 (.offp 1 (.nn (.var 0))) (.pick (.ld none (.offp 1 (.nn (.var 0)))) (.const (.bool true)) (.isnil 3 true (.var 6))) [])
  (.seq
   (.set 3 (.var 5))
  .ret))))
abbrev v_asm_words_number : List Nat := [0, 1, 2, 6, 12, 7, 8]
abbrev k_asm_words_number : List (List Nat) := []
abbrev r_asm_words_number : List Ex := [(.var 3)]
theorem ok_asm_words_number : compile Tryz.prog Tryz.f52 v_asm_words_number k_asm_words_number = some (c_asm_words_number, r_asm_words_number) := by kernel_rfl

/- (*tipstaff/asm.words).wide -/
def c_asm_words_wide : Cmd :=
  (.seq
   (.set 2 (.const (.slice none 0 0)))
  (.seq
   (.seq
    (.call (some 3) 79 [(.var 0)] [])
   (.seq
    (.chk [(.upd 1 1 (.upd 0 1 (.const (.agg #[(.int .u8 0), (.int .u8 0), (.int .u8 0), (.int .i16 0), (.int .i32 0)])) (.const (.int .u8 24))) (.var 3))])
   (.seq
    (.new (some 4) 39 (.const (.agg #[(.int .u8 0), (.int .u8 0), (.int .u8 0), (.int .i16 0), (.int .i32 0)])) [])
   (.store 5 (.var 4) (.upd 1 1 (.upd 0 1 (.const (.agg #[(.int .u8 0), (.int .u8 0), (.int .u8 0), (.int .i16 0), (.int .i32 0)])) (.const (.int .u8 24))) (.var 3)) []))))
  (.seq
   (.seq
    (.chk [(.bin .eql (.var 1) (.const (.string ⟨#[109, 97, 112]⟩)))])
   (.cond (.bin .eql (.var 1) (.const (.string ⟨#[109, 97, 112]⟩)))
     (.seq
      (.seq
       (.call (some 5) 36 [(.var 0)] [])
      (.seq
       (.call (some 6) 52 [(.var 0), (.var 5), (.const (.int .i64 32))] [])
      (.seq
       (.set 7 (.conv .i32 (.var 6)))
      (.seq
       (.store 1 (.offp 2 (.var 4)) (.const (.int .u8 1)) [])
      (.store 1 (.offp 4 (.var 4)) (.var 7) [])))))
     (.seq
      (.seq
       (.row (some 8) 39 2 (.upd 5 5 (.upd 0 5 (.const (.agg #[(.int .u8 0), (.int .u8 0), (.int .u8 0), (.int .i16 0), (.int .i32 0), (.int .u8 0), (.int .u8 0), (.int .u8 0), (.int .i16 0), (.int .i32 0)])) (.ld (some 5) (.var 4))) (.const (.agg #[(.int .u8 0), (.int .u8 0), (.int .u8 0), (.int .i16 0), (.int .i32 0)]))) [])
      (.set 2 (.var 8)))
     .ret))
     .skip))
  (.seq
   (.seq
    (.call (some 9) 36 [(.var 0)] [])
   (.seq
    (.call (some 10) 80 [(.var 9), (.const (.int .i64 10)), (.const (.int .i64 64))] [])
   (.seq
    (.chk [(.proj 1 (.var 10))])
   (.seq
    (.set 11 (.proj 0 (.var 10)))
   (.set 12 (.proj 1 (.var 10)))))))
  (.seq
   (.store 1 (.offp 1 (.nn (.var 0))) (.pick (.ld none (.offp 1 (.nn (.var 0)))) (.const (.bool true)) (.isnil 3 true (.var 12))) [])
  (.seq
   (.store 1 (.offp 4 (.var 4)) (.conv .i32 (.conv .u32 (.var 11))) [])
  (.seq
   (.seq
    (.chk [(.upd 4 1 (.const (.agg #[(.int .u8 0), (.int .u8 0), (.int .u8 0), (.int .i16 0), (.int .i32 0)])) (.conv .i32 (.conv .u32 (.bin .shr (.var 11) (.const (.int .u64 32))))))])
   (.seq
    (.row (some 13) 39 2 (.upd 5 5 (.upd 0 5 (.const (.agg #[(.int .u8 0), (.int .u8 0), (.int .u8 0), (.int .i16 0), (.int .i32 0), (.int .u8 0), (.int .u8 0), (.int .u8 0), (.int .i16 0), (.int .i32 0)])) (.ld (some 5) (.var 4))) (.upd 4 1 (.const (.agg #[(.int .u8 0), (.int .u8 0), (.int .u8 0), (.int .i16 0), (.int .i32 0)])) (.conv .i32 (.conv .u32 (.bin .shr (.var 11) (.const (.int .u64 32))))))) [])
   (.set 2 (.var 13))))
  .ret)))))))
abbrev v_asm_words_wide : List Nat := [0, 1, 4, 9, 5, 15, 16, 17, 22, 25, 26, 6, 7, 50]
abbrev k_asm_words_wide : List (List Nat) := []
abbrev r_asm_words_wide : List Ex := [(.var 2)]
theorem ok_asm_words_wide : compile Tryz.prog Tryz.f53 v_asm_words_wide k_asm_words_wide = some (c_asm_words_wide, r_asm_words_wide) := by kernel_rfl

/- (*tipstaff/asm.words).alu -/
def c_asm_words_alu : Cmd :=
  (.seq
   (.new (some 3) 39 (.const (.agg #[(.int .u8 0), (.int .u8 0), (.int .u8 0), (.int .i16 0), (.int .i32 0)])) [])
  (.seq
   (.seq
    (.set 5 (.bin .or (.bin .shl (.conv .u8 (.var 1)) (.const (.int .u64 4))) (.var 2)))
   (.seq
    (.call (some 4) 79 [(.var 0)] [])
   (.seq
    (.set 7 (.upd 1 1 (.upd 0 1 (.const (.agg #[(.int .u8 0), (.int .u8 0), (.int .u8 0), (.int .i16 0), (.int .i32 0)])) (.var 5)) (.var 4)))
   (.seq
    (.new (some 6) 39 (.const (.agg #[(.int .u8 0), (.int .u8 0), (.int .u8 0), (.int .i16 0), (.int .i32 0)])) [])
   (.store 5 (.var 6) (.var 7) [])))))
  (.seq
   (.cond (.bin .neq (.var 1) (.const (.int .i64 8)))
     (.call none 82 [(.var 0), (.var 6), (.const (.int .u8 8))] [])
     .skip)
  (.seq
   (.store 5 (.var 3) (.ld (some 5) (.var 6)) [])
  .ret))))
abbrev v_asm_words_alu : List Nat := [0, 1, 2, 6, 14, 12, 7, 15]
abbrev k_asm_words_alu : List (List Nat) := []
abbrev r_asm_words_alu : List Ex := [(.ld (some 5) (.var 3))]
theorem ok_asm_words_alu : compile Tryz.prog Tryz.f56 v_asm_words_alu k_asm_words_alu = some (c_asm_words_alu, r_asm_words_alu) := by kernel_rfl

/- (*tipstaff/asm.words).jump -/
def c_asm_words_jump : Cmd :=
  (.seq
   (.new (some 3) 39 (.const (.agg #[(.int .u8 0), (.int .u8 0), (.int .u8 0), (.int .i16 0), (.int .i32 0)])) [])
  (.seq
   (.seq
    (.set 5 (.bin .or (.bin .shl (.conv .u8 (.var 1)) (.const (.int .u64 4))) (.var 2)))
   (.seq
    (.call (some 4) 79 [(.var 0)] [])
   (.seq
    (.set 7 (.upd 1 1 (.upd 0 1 (.const (.agg #[(.int .u8 0), (.int .u8 0), (.int .u8 0), (.int .i16 0), (.int .i32 0)])) (.var 5)) (.var 4)))
   (.seq
    (.new (some 6) 39 (.const (.agg #[(.int .u8 0), (.int .u8 0), (.int .u8 0), (.int .i16 0), (.int .i32 0)])) [])
   (.store 5 (.var 6) (.var 7) [])))))
  (.seq
   (.call none 82 [(.var 0), (.var 6), (.const (.int .u8 8))] [])
  (.seq
   (.seq
    (.call (some 8) 51 [(.var 0)] [])
   (.store 1 (.offp 3 (.var 6)) (.var 8) []))
  (.seq
   (.store 5 (.var 3) (.ld (some 5) (.var 6)) [])
  .ret)))))
abbrev v_asm_words_jump : List Nat := [0, 1, 2, 6, 14, 12, 7, 15, 19]
abbrev k_asm_words_jump : List (List Nat) := []
abbrev r_asm_words_jump : List Ex := [(.ld (some 5) (.var 3))]
theorem ok_asm_words_jump : compile Tryz.prog Tryz.f58 v_asm_words_jump k_asm_words_jump = some (c_asm_words_jump, r_asm_words_jump) := by kernel_rfl

/- (*tipstaff/asm.words).memory -/
def c_asm_words_memory : Cmd :=
  (.seq
   (.new (some 3) 39 (.const (.agg #[(.int .u8 0), (.int .u8 0), (.int .u8 0), (.int .i16 0), (.int .i32 0)])) [])
  (.seq
   (.seq
    (.set 4 (.var 1))
   (.block 0
     (.seq
      (.seq
       (.chk [(.bin .eql (.var 4) (.const (.string ⟨#[108, 100]⟩)))])
      (.set 5 (.bin .eql (.var 4) (.const (.string ⟨#[108, 100]⟩)))))
     (.cond (.var 5)
       (.seq
        (.seq
         (.chk [(.bin .or (.const (.int .u8 97)) (.bin .shl (.var 2) (.const (.int .u64 3))))])
        (.seq
         (.call (some 6) 79 [(.var 0)] [])
        (.seq
         (.call (some 7) 79 [(.var 0)] [])
        (.seq
         (.call (some 8) 51 [(.var 0)] [])
        (.seq
         (.chk [(.upd 3 1 (.upd 2 1 (.upd 1 1 (.upd 0 1 (.const (.agg #[(.int .u8 0), (.int .u8 0), (.int .u8 0), (.int .i16 0), (.int .i32 0)])) (.bin .or (.const (.int .u8 97)) (.bin .shl (.var 2) (.const (.int .u64 3))))) (.var 6)) (.var 7)) (.var 8))])
        (.store 5 (.var 3) (.upd 3 1 (.upd 2 1 (.upd 1 1 (.upd 0 1 (.const (.agg #[(.int .u8 0), (.int .u8 0), (.int .u8 0), (.int .i16 0), (.int .i32 0)])) (.bin .or (.const (.int .u8 97)) (.bin .shl (.var 2) (.const (.int .u64 3))))) (.var 6)) (.var 7)) (.var 8)) []))))))
       .ret)
       (.seq
        (.seq
         (.chk [(.bin .eql (.var 4) (.const (.string ⟨#[115, 116]⟩)))])
        (.set 9 (.bin .eql (.var 4) (.const (.string ⟨#[115, 116]⟩)))))
       (.cond (.var 9)
         (.seq
          (.seq
           (.chk [(.bin .or (.const (.int .u8 98)) (.bin .shl (.var 2) (.const (.int .u64 3))))])
          (.seq
           (.call (some 10) 79 [(.var 0)] [])
          (.seq
           (.call (some 11) 51 [(.var 0)] [])
          (.seq
           (.chk [(.upd 3 1 (.upd 1 1 (.upd 0 1 (.const (.agg #[(.int .u8 0), (.int .u8 0), (.int .u8 0), (.int .i16 0), (.int .i32 0)])) (.bin .or (.const (.int .u8 98)) (.bin .shl (.var 2) (.const (.int .u64 3))))) (.var 10)) (.var 11))])
          (.seq
           (.new (some 12) 39 (.const (.agg #[(.int .u8 0), (.int .u8 0), (.int .u8 0), (.int .i16 0), (.int .i32 0)])) [])
          (.store 5 (.var 12) (.upd 3 1 (.upd 1 1 (.upd 0 1 (.const (.agg #[(.int .u8 0), (.int .u8 0), (.int .u8 0), (.int .i16 0), (.int .i32 0)])) (.bin .or (.const (.int .u8 98)) (.bin .shl (.var 2) (.const (.int .u64 3))))) (.var 10)) (.var 11)) []))))))
         (.seq
          (.call none 82 [(.var 0), (.var 12), (.const (.int .u8 1))] [])
         (.seq
          (.store 5 (.var 3) (.ld (some 5) (.var 12)) [])
         .ret)))
         .skip))))))
  (.seq
   (.seq
    (.chk [(.slArr 4 1 (.const (.pointer (some ⟨2, 0, none⟩))) (.const (.int .i64 0)) (.const (.int .i64 4)))])
   (.seq
    (.call (some 13) 55 [(.slArr 4 1 (.const (.pointer (some ⟨2, 0, none⟩))) (.const (.int .i64 0)) (.const (.int .i64 4))), (.var 1)] [])
   (.set 14 (.var 13))))
  (.seq
   (.cond (.bin .lss (.var 14) (.const (.int .i64 0)))
     (.seq
      (.store 1 (.offp 1 (.nn (.var 0))) (.const (.bool true)) [])
     (.seq
      (.store 5 (.var 3) (.const (.agg #[(.int .u8 0), (.int .u8 0), (.int .u8 0), (.int .i16 0), (.int .i32 0)])) [])
     .ret))
     .skip)
  (.seq
   (.seq
    (.chk [(.bin .or (.const (.int .u8 195)) (.bin .shl (.var 2) (.const (.int .u64 3))))])
   (.seq
    (.call (some 15) 79 [(.var 0)] [])
   (.seq
    (.call (some 16) 51 [(.var 0)] [])
   (.seq
    (.call (some 17) 79 [(.var 0)] [])
   (.seq
    (.chk [(.upd 2 1 (.upd 3 1 (.upd 1 1 (.upd 0 1 (.const (.agg #[(.int .u8 0), (.int .u8 0), (.int .u8 0), (.int .i16 0), (.int .i32 0)])) (.bin .or (.const (.int .u8 195)) (.bin .shl (.var 2) (.const (.int .u64 3))))) (.var 15)) (.var 16)) (.var 17))])
   (.seq
    (.new (some 18) 39 (.const (.agg #[(.int .u8 0), (.int .u8 0), (.int .u8 0), (.int .i16 0), (.int .i32 0)])) [])
   (.store 5 (.var 18) (.upd 2 1 (.upd 3 1 (.upd 1 1 (.upd 0 1 (.const (.agg #[(.int .u8 0), (.int .u8 0), (.int .u8 0), (.int .i16 0), (.int .i32 0)])) (.bin .or (.const (.int .u8 195)) (.bin .shl (.var 2) (.const (.int .u64 3))))) (.var 15)) (.var 16)) (.var 17)) [])))))))
  (.seq
   (.seq
    (.chk [(.ld none (.ixArr 4 1 (.const (.pointer (some ⟨3, 0, none⟩))) (.var 14))), (.ixArr 4 1 (.const (.pointer (some ⟨3, 0, none⟩))) (.var 14))])
   (.store 1 (.offp 4 (.var 18)) (.ld none (.ixArr 4 1 (.const (.pointer (some ⟨3, 0, none⟩))) (.var 14))) []))
  (.seq
   (.store 5 (.var 3) (.ld (some 5) (.var 18)) [])
  .ret)))))))
abbrev v_asm_words_memory : List Nat := [0, 1, 2, 6, 10, 11, 17, 19, 21, 23, 29, 31, 7, 38, 8, 49, 51, 53, 9]
abbrev k_asm_words_memory : List (List Nat) := []
abbrev r_asm_words_memory : List Ex := [(.ld (some 5) (.var 3))]
theorem ok_asm_words_memory : compile Tryz.prog Tryz.f59 v_asm_words_memory k_asm_words_memory = some (c_asm_words_memory, r_asm_words_memory) := by kernel_rfl

/- (*tipstaff/asm.words).reg -/
def c_asm_words_reg : Cmd :=
  (.seq
   (.set 1 (.const (.int .u8 0)))
  (.seq
   (.seq
    (.call (some 2) 36 [(.var 0)] [])
   (.seq
    (.call (some 3) 99 [(.var 2), (.const (.string ⟨#[114]⟩))] [])
   (.seq
    (.chk [(.proj 1 (.var 3))])
   (.seq
    (.set 4 (.proj 0 (.var 3)))
   (.set 5 (.proj 1 (.var 3)))))))
  (.seq
   (.seq
    (.call (some 6) 52 [(.var 0), (.var 4), (.const (.int .i64 16))] [])
   (.set 7 (.var 6)))
  (.seq
   (.store 1 (.offp 1 (.nn (.var 0))) (.pick (.pick (.pick (.ld none (.offp 1 (.nn (.var 0)))) (.const (.bool true)) (.un .not (.var 5))) (.const (.bool true)) (.bin .lss (.var 7) (.const (.int .i64 0)))) (.const (.bool true)) (.bin .geq (.var 7) (.const (.int .i64 11)))) [])
  (.seq
   (.set 1 (.conv .u8 (.var 7)))
  .ret)))))
abbrev v_asm_words_reg : List Nat := [0, 2, 8, 9, 3, 4, 14, 5]
abbrev k_asm_words_reg : List (List Nat) := []
abbrev r_asm_words_reg : List Ex := [(.var 1)]
theorem ok_asm_words_reg : compile Tryz.prog Tryz.f79 v_asm_words_reg k_asm_words_reg = some (c_asm_words_reg, r_asm_words_reg) := by kernel_rfl

/- (*tipstaff/asm.words).second -/
def c_asm_words_second : Cmd :=
  (.seq
   (.seq
    (.seq
     (.set 4 (.bin .gtr (.len false (.ld none (.offp 0 (.nn (.var 0))))) (.const (.int .i64 0))))
    (.seq
     (.chk [(.pick (.var 4) (.ld none (.ixSl 1 (.ld none (.offp 0 (.nn (.var 0)))) (.const (.int .i64 0)))) (.const (.bool false)))])
    (.cond (.pick (.var 4) (.const (.bool true)) (.const (.bool false)))
      (.call (some 3) 102 [(.ld none (.ixSl 1 (.ld none (.offp 0 (.nn (.var 0)))) (.const (.int .i64 0)))), (.const (.string ⟨#[114]⟩))] [])
      (.clr [3]))))
   (.cond (.pick (.var 4) (.var 3) (.const (.bool false)))
     (.seq
      (.store 1 (.offp 0 (.nn (.var 1))) (.bin .or (.ld none (.offp 0 (.nn (.var 1)))) (.var 2)) [])
     (.seq
      (.seq
       (.chk [(.var 1)])
      (.seq
       (.call (some 5) 79 [(.var 0)] [])
      (.store 1 (.offp 2 (.nn (.var 1))) (.var 5) [])))
     .ret))
     .skip))
  (.seq
   (.chk [(.var 1)])
  (.seq
   (.call (some 6) 36 [(.var 0)] [])
  (.seq
   (.call (some 7) 52 [(.var 0), (.var 6), (.const (.int .i64 32))] [])
  (.store 1 (.offp 4 (.nn (.var 1))) (.conv .i32 (.var 7)) [])))))
abbrev v_asm_words_second : List Nat := [0, 1, 2, 19, 12, 31, 37, 38]
abbrev k_asm_words_second : List (List Nat) := []
abbrev r_asm_words_second : List Ex := []
theorem ok_asm_words_second : compile Tryz.prog Tryz.f82 v_asm_words_second k_asm_words_second = some (c_asm_words_second, r_asm_words_second) := by kernel_rfl

/- slices.Index[[]int32,int32] -/
def c_slices_Index : Cmd :=
  (.seq
   (.set 2 (.const (.int .i64 0)))
  (.seq
   (.seq
    (.seq
     (.set 4 (.len false (.var 0)))
    (.set 3 (.const (.int .i64 0))))
   (.block 0
     (.loop [0, 1, 3, 4]
       (.seq
        (.cond (.bin .lss (.var 3) (.var 4))
          .skip
          (.exit 0))
       (.seq
        (.block 1
          (.seq
           (.set 5 (.var 3))
          (.cond (.bin .eql (.var 1) (.ld none (.ixSl 1 (.var 0) (.var 5))))
            (.seq
             (.set 2 (.var 5))
            .ret)
            .skip)))
       (.set 3 (.bin .add (.var 3) (.const (.int .i64 1)))))))))
  (.seq
   (.set 2 (.const (.int .i64 (-1))))
  .ret)))
abbrev v_slices_Index : List Nat := [0, 1, 4, 8, 7, 5]
abbrev k_slices_Index : List (List Nat) := [[0, 1, 3, 4]]
abbrev r_slices_Index : List Ex := [(.var 2)]
theorem ok_slices_Index : compile Tryz.prog Tryz.f46 v_slices_Index k_slices_Index = some (c_slices_Index, r_slices_Index) := by kernel_rfl

/- slices.Index[[]string,string] -/
def c_slices_IndexS : Cmd :=
  (.seq
   (.set 2 (.const (.int .i64 0)))
  (.seq
   (.seq
    (.seq
     (.set 4 (.len false (.var 0)))
    (.set 3 (.const (.int .i64 0))))
   (.block 0
     (.loop [0, 1, 3, 4]
       (.seq
        (.cond (.bin .lss (.var 3) (.var 4))
          .skip
          (.exit 0))
       (.seq
        (.block 1
          (.seq
           (.set 5 (.var 3))
          (.cond (.bin .eql (.var 1) (.ld none (.ixSl 1 (.var 0) (.var 5))))
            (.seq
             (.set 2 (.var 5))
            .ret)
            .skip)))
       (.set 3 (.bin .add (.var 3) (.const (.int .i64 1)))))))))
  (.seq
   (.set 2 (.const (.int .i64 (-1))))
  .ret)))
abbrev v_slices_IndexS : List Nat := [0, 1, 4, 8, 7, 5]
abbrev k_slices_IndexS : List (List Nat) := [[0, 1, 3, 4]]
abbrev r_slices_IndexS : List Ex := [(.var 2)]
theorem ok_slices_IndexS : compile Tryz.prog Tryz.f55 v_slices_IndexS k_slices_IndexS = some (c_slices_IndexS, r_slices_IndexS) := by kernel_rfl

/- slices.Clone[[]tipstaff/api.Insn,tipstaff/api.Insn] -/
def c_slices_Clone : Cmd :=
  (.seq
   (.set 1 (.const (.slice none 0 0)))
  (.seq
   (.cond (.isnil 1 false (.var 0))
     (.seq
      (.set 1 (.const (.slice none 0 0)))
     .ret)
     .skip)
  (.seq
   (.seq
    (.row (some 2) 39 0 (.const (.agg #[])) [])
   (.seq
    (.bi (some 3) .append [23, 23] 23 [(.var 2), (.var 0)] [])
   (.set 1 (.var 3))))
  .ret)))
abbrev v_slices_Clone : List Nat := [0, 2, 5, 7]
abbrev k_slices_Clone : List (List Nat) := []
abbrev r_slices_Clone : List Ex := [(.var 1)]
theorem ok_slices_Clone : compile Tryz.prog Tryz.f60 v_slices_Clone k_slices_Clone = some (c_slices_Clone, r_slices_Clone) := by kernel_rfl

/- strconv.Itoa -/
def c_strconv_Itoa : Cmd :=
  (.seq
   (.set 1 (.const (.string ⟨#[]⟩)))
  (.seq
   (.seq
    (.call (some 2) 67 [(.var 0)] [])
   (.set 1 (.var 2)))
  .ret))
abbrev v_strconv_Itoa : List Nat := [0, 2, 4]
abbrev k_strconv_Itoa : List (List Nat) := []
abbrev r_strconv_Itoa : List Ex := [(.var 1)]
theorem ok_strconv_Itoa : compile Tryz.prog Tryz.f41 v_strconv_Itoa k_strconv_Itoa = some (c_strconv_Itoa, r_strconv_Itoa) := by kernel_rfl

/- strconv.FormatUint -/
def c_strconv_FormatUint : Cmd :=
  (.seq
   (.set 2 (.const (.string ⟨#[]⟩)))
  (.seq
   (.seq
    (.call (some 3) 68 [(.var 0), (.var 1)] [])
   (.set 2 (.var 3)))
  .ret))
abbrev v_strconv_FormatUint : List Nat := [0, 1, 4, 7]
abbrev k_strconv_FormatUint : List (List Nat) := []
abbrev r_strconv_FormatUint : List Ex := [(.var 2)]
theorem ok_strconv_FormatUint : compile Tryz.prog Tryz.f47 v_strconv_FormatUint k_strconv_FormatUint = some (c_strconv_FormatUint, r_strconv_FormatUint) := by kernel_rfl

/- strconv.ParseInt -/
def c_strconv_ParseInt : Cmd :=
  (.seq
   (.seq
    (.set 3 (.const (.int .i64 0)))
   (.set 4 (.const .nilIface)))
  (.seq
   (.seq
    (.call (some 5) 97 [(.var 0), (.var 1), (.var 2)] [])
   (.seq
    (.chk [(.proj 1 (.var 5))])
   (.seq
    (.set 6 (.proj 0 (.var 5)))
   (.set 4 (.proj 1 (.var 5))))))
  (.seq
   (.cond (.isnil 3 true (.var 4))
     (.seq
      (.seq
       (.chk [(.var 6)])
      (.seq
       (.call (some 7) 98 [(.const (.string ⟨#[80, 97, 114, 115, 101, 73, 110, 116]⟩)), (.var 0), (.var 1), (.var 2), (.var 4)] [])
      (.seq
       (.set 3 (.var 6))
      (.set 4 (.var 7)))))
     .ret)
     .skip)
  (.seq
   (.seq
    (.set 3 (.var 6))
   (.set 4 (.const .nilIface)))
  .ret))))
abbrev v_strconv_ParseInt : List Nat := [0, 1, 2, 6, 7, 13, 8, 23]
abbrev k_strconv_ParseInt : List (List Nat) := []
abbrev r_strconv_ParseInt : List Ex := [(.var 3), (.var 4)]
theorem ok_strconv_ParseInt : compile Tryz.prog Tryz.f78 v_strconv_ParseInt k_strconv_ParseInt = some (c_strconv_ParseInt, r_strconv_ParseInt) := by kernel_rfl

/- strconv.ParseUint -/
def c_strconv_ParseUint : Cmd :=
  (.seq
   (.seq
    (.set 3 (.const (.int .u64 0)))
   (.set 4 (.const .nilIface)))
  (.seq
   (.seq
    (.call (some 5) 100 [(.var 0), (.var 1), (.var 2)] [])
   (.seq
    (.chk [(.proj 1 (.var 5))])
   (.seq
    (.set 6 (.proj 0 (.var 5)))
   (.set 7 (.proj 1 (.var 5))))))
  (.seq
   (.cond (.isnil 3 true (.var 7))
     (.seq
      (.seq
       (.chk [(.var 6)])
      (.seq
       (.call (some 8) 98 [(.const (.string ⟨#[80, 97, 114, 115, 101, 85, 105, 110, 116]⟩)), (.var 0), (.var 1), (.var 2), (.var 7)] [])
      (.seq
       (.set 3 (.var 6))
      (.set 4 (.var 8)))))
     .ret)
     .skip)
  (.seq
   (.seq
    (.set 3 (.var 6))
   (.set 4 (.const .nilIface)))
  .ret))))
abbrev v_strconv_ParseUint : List Nat := [0, 1, 2, 6, 7, 14, 8, 9, 24]
abbrev k_strconv_ParseUint : List (List Nat) := []
abbrev r_strconv_ParseUint : List Ex := [(.var 3), (.var 4)]
theorem ok_strconv_ParseUint : compile Tryz.prog Tryz.f80 v_strconv_ParseUint k_strconv_ParseUint = some (c_strconv_ParseUint, r_strconv_ParseUint) := by kernel_rfl

/- internal/strconv.Itoa -/
def c_internal_strconv_Itoa : Cmd :=
  (.seq
   (.set 1 (.const (.string ⟨#[]⟩)))
  (.seq
   (.seq
    (.call (some 2) 87 [(.var 0), (.const (.int .i64 10))] [])
   (.set 1 (.var 2)))
  .ret))
abbrev v_internal_strconv_Itoa : List Nat := [0, 2, 4]
abbrev k_internal_strconv_Itoa : List (List Nat) := []
abbrev r_internal_strconv_Itoa : List Ex := [(.var 1)]
theorem ok_internal_strconv_Itoa : compile Tryz.prog Tryz.f67 v_internal_strconv_Itoa k_internal_strconv_Itoa = some (c_internal_strconv_Itoa, r_internal_strconv_Itoa) := by kernel_rfl

/- internal/strconv.FormatInt -/
def c_internal_strconv_FormatInt : Cmd :=
  (.seq
   (.set 2 (.const (.string ⟨#[]⟩)))
  (.seq
   (.cond (.bin .eql (.var 1) (.const (.int .i64 10)))
     (.seq
      (.cond (.pick (.bin .leq (.const (.int .i64 0)) (.var 0)) (.bin .lss (.var 0) (.const (.int .i64 100))) (.const (.bool false)))
        (.seq
         (.seq
          (.call (some 3) 88 [(.var 0)] [])
         (.set 2 (.var 3)))
        .ret)
        .skip)
     (.seq
      (.new (some 4) 124 (.const (.agg (Array.replicate 24 (.int .u8 0)))) [])
     (.seq
      (.set 5 (.conv .u64 (.var 0)))
     (.seq
      (.cond (.bin .lss (.var 0) (.const (.int .i64 0)))
        (.set 5 (.un .neg (.var 5)))
        .skip)
     (.seq
      (.seq
       (.call (some 6) 89 [(.var 5)] [])
      (.set 7 (.var 6)))
     (.seq
      (.call none 90 [(.slArr 24 1 (.var 4) (.const (.int .i64 1)) (.bin .add (.const (.int .i64 1)) (.var 7))), (.var 5)] [])
     (.seq
      (.cond (.bin .lss (.var 0) (.const (.int .i64 0)))
        (.seq
         (.store 1 (.ixArr 24 1 (.var 4) (.const (.int .i64 0))) (.const (.int .u8 45)) [])
        (.seq
         (.set 2 (.bstr (.slArr 24 1 (.var 4) (.const (.int .i64 0)) (.bin .add (.const (.int .i64 1)) (.var 7)))))
        .ret))
        .skip)
     (.seq
      (.set 2 (.bstr (.slArr 24 1 (.var 4) (.const (.int .i64 1)) (.bin .add (.const (.int .i64 1)) (.var 7)))))
     .ret))))))))
     .skip)
  (.seq
   (.seq
    (.call (some 8) 91 [(.const (.slice none 0 0)), (.conv .u64 (.var 0)), (.var 1), (.bin .lss (.var 0) (.const (.int .i64 0))), (.const (.bool false))] [])
   (.seq
    (.chk [(.proj 1 (.var 8))])
   (.seq
    (.set 9 (.proj 0 (.var 8)))
   (.set 10 (.proj 1 (.var 8))))))
  (.seq
   (.set 2 (.var 10))
  .ret))))
abbrev v_internal_strconv_FormatInt : List Nat := [0, 1, 4, 19, 5, 6, 27, 7, 50, 8, 9]
abbrev k_internal_strconv_FormatInt : List (List Nat) := []
abbrev r_internal_strconv_FormatInt : List Ex := [(.var 2)]
theorem ok_internal_strconv_FormatInt : compile Tryz.prog Tryz.f87 v_internal_strconv_FormatInt k_internal_strconv_FormatInt = some (c_internal_strconv_FormatInt, r_internal_strconv_FormatInt) := by kernel_rfl

/- internal/strconv.FormatUint -/
def c_internal_strconv_FormatUint : Cmd :=
  (.seq
   (.set 2 (.const (.string ⟨#[]⟩)))
  (.seq
   (.cond (.bin .eql (.var 1) (.const (.int .i64 10)))
     (.seq
      (.cond (.bin .lss (.var 0) (.const (.int .u64 100)))
        (.seq
         (.seq
          (.call (some 3) 88 [(.conv .i64 (.var 0))] [])
         (.set 2 (.var 3)))
        .ret)
        .skip)
     (.seq
      (.new (some 4) 124 (.const (.agg (Array.replicate 24 (.int .u8 0)))) [])
     (.seq
      (.seq
       (.call (some 5) 89 [(.var 0)] [])
      (.set 6 (.var 5)))
     (.seq
      (.call none 90 [(.slArr 24 1 (.var 4) (.const (.int .i64 0)) (.var 6)), (.var 0)] [])
     (.seq
      (.set 2 (.bstr (.slArr 24 1 (.var 4) (.const (.int .i64 0)) (.var 6))))
     .ret)))))
     .skip)
  (.seq
   (.seq
    (.call (some 7) 91 [(.const (.slice none 0 0)), (.var 0), (.var 1), (.const (.bool false)), (.const (.bool false))] [])
   (.seq
    (.chk [(.proj 1 (.var 7))])
   (.seq
    (.set 8 (.proj 0 (.var 7)))
   (.set 9 (.proj 1 (.var 7))))))
  (.seq
   (.set 2 (.var 9))
  .ret))))
abbrev v_internal_strconv_FormatUint : List Nat := [0, 1, 4, 15, 5, 17, 6, 28, 7, 8]
abbrev k_internal_strconv_FormatUint : List (List Nat) := []
abbrev r_internal_strconv_FormatUint : List Ex := [(.var 2)]
theorem ok_internal_strconv_FormatUint : compile Tryz.prog Tryz.f68 v_internal_strconv_FormatUint k_internal_strconv_FormatUint = some (c_internal_strconv_FormatUint, r_internal_strconv_FormatUint) := by kernel_rfl

/- internal/strconv.small -/
def c_internal_strconv_small : Cmd :=
  (.seq
   (.set 1 (.const (.string ⟨#[]⟩)))
  (.seq
   (.cond (.bin .lss (.var 0) (.const (.int .i64 10)))
     (.seq
      (.seq
       (.chk [(.slStr (.const (.string ⟨#[48, 49, 50, 51, 52, 53, 54, 55, 56, 57, 97, 98, 99, 100, 101, 102, 103, 104, 105, 106, 107, 108, 109, 110, 111, 112, 113, 114, 115, 116, 117, 118, 119, 120, 121, 122]⟩)) (.var 0) (.bin .add (.var 0) (.const (.int .i64 1))))])
      (.set 1 (.slStr (.const (.string ⟨#[48, 49, 50, 51, 52, 53, 54, 55, 56, 57, 97, 98, 99, 100, 101, 102, 103, 104, 105, 106, 107, 108, 109, 110, 111, 112, 113, 114, 115, 116, 117, 118, 119, 120, 121, 122]⟩)) (.var 0) (.bin .add (.var 0) (.const (.int .i64 1))))))
     .ret)
     .skip)
  (.seq
   (.seq
    (.chk [(.slStr (.const (.string ⟨#[48, 48, 48, 49, 48, 50, 48, 51, 48, 52, 48, 53, 48, 54, 48, 55, 48, 56, 48, 57, 49, 48, 49, 49, 49, 50, 49, 51, 49, 52, 49, 53, 49, 54, 49, 55, 49, 56, 49, 57, 50, 48, 50, 49, 50, 50, 50, 51, 50, 52, 50, 53, 50, 54, 50, 55, 50, 56, 50, 57, 51, 48, 51, 49, 51, 50, 51, 51, 51, 52, 51, 53, 51, 54, 51, 55, 51, 56, 51, 57, 52, 48, 52, 49, 52, 50, 52, 51, 52, 52, 52, 53, 52, 54, 52, 55, 52, 56, 52, 57, 53, 48, 53, 49, 53, 50, 53, 51, 53, 52, 53, 53, 53, 54, 53, 55, 53, 56, 53, 57, 54, 48, 54, 49, 54, 50, 54, 51, 54, 52, 54, 53, 54, 54, 54, 55, 54, 56, 54, 57, 55, 48, 55, 49, 55, 50, 55, 51, 55, 52, 55, 53, 55, 54, 55, 55, 55, 56, 55, 57, 56, 48, 56, 49, 56, 50, 56, 51, 56, 52, 56, 53, 56, 54, 56, 55, 56, 56, 56, 57, 57, 48, 57, 49, 57, 50, 57, 51, 57, 52, 57, 53, 57, 54, 57, 55, 57, 56, 57, 57]⟩)) (.bin .mul (.var 0) (.const (.int .i64 2))) (.bin .add (.bin .mul (.var 0) (.const (.int .i64 2))) (.const (.int .i64 2))))])
   (.set 1 (.slStr (.const (.string ⟨#[48, 48, 48, 49, 48, 50, 48, 51, 48, 52, 48, 53, 48, 54, 48, 55, 48, 56, 48, 57, 49, 48, 49, 49, 49, 50, 49, 51, 49, 52, 49, 53, 49, 54, 49, 55, 49, 56, 49, 57, 50, 48, 50, 49, 50, 50, 50, 51, 50, 52, 50, 53, 50, 54, 50, 55, 50, 56, 50, 57, 51, 48, 51, 49, 51, 50, 51, 51, 51, 52, 51, 53, 51, 54, 51, 55, 51, 56, 51, 57, 52, 48, 52, 49, 52, 50, 52, 51, 52, 52, 52, 53, 52, 54, 52, 55, 52, 56, 52, 57, 53, 48, 53, 49, 53, 50, 53, 51, 53, 52, 53, 53, 53, 54, 53, 55, 53, 56, 53, 57, 54, 48, 54, 49, 54, 50, 54, 51, 54, 52, 54, 53, 54, 54, 54, 55, 54, 56, 54, 57, 55, 48, 55, 49, 55, 50, 55, 51, 55, 52, 55, 53, 55, 54, 55, 55, 55, 56, 55, 57, 56, 48, 56, 49, 56, 50, 56, 51, 56, 52, 56, 53, 56, 54, 56, 55, 56, 56, 56, 57, 57, 48, 57, 49, 57, 50, 57, 51, 57, 52, 57, 53, 57, 54, 57, 55, 57, 56, 57, 57]⟩)) (.bin .mul (.var 0) (.const (.int .i64 2))) (.bin .add (.bin .mul (.var 0) (.const (.int .i64 2))) (.const (.int .i64 2))))))
  .ret)))
abbrev v_internal_strconv_small : List Nat := [0, 2]
abbrev k_internal_strconv_small : List (List Nat) := []
abbrev r_internal_strconv_small : List Ex := [(.var 1)]
theorem ok_internal_strconv_small : compile Tryz.prog Tryz.f88 v_internal_strconv_small k_internal_strconv_small = some (c_internal_strconv_small, r_internal_strconv_small) := by kernel_rfl

/- internal/strconv.formatBase10 -/
def c_internal_strconv_formatBase10 : Cmd :=
  (.seq
   (.set 2 (.len false (.var 0)))
  (.seq
   (.block 0
     (.loop [0, 1, 2]
       (.seq
        (.cond (.bin .geq (.var 2) (.const (.int .i64 8)))
          .skip
          (.exit 0))
       (.block 1
         (.seq
          (.set 3 (.conv .u32 (.bin .rem (.var 1) (.const (.int .u64 100000000)))))
         (.seq
          (.set 1 (.bin .quo (.var 1) (.const (.int .u64 100000000))))
         (.seq
          (.seq
           (.chk [(.bin .rem (.var 3) (.const (.int .u32 10000)))])
          (.seq
           (.set 4 (.bin .quo (.var 3) (.const (.int .u32 10000))))
          (.set 5 (.bin .rem (.var 3) (.const (.int .u32 10000))))))
         (.seq
          (.seq
           (.chk [(.bin .mul (.bin .rem (.var 5) (.const (.int .u32 100))) (.const (.int .u32 2)))])
          (.seq
           (.set 6 (.bin .mul (.bin .quo (.var 5) (.const (.int .u32 100))) (.const (.int .u32 2))))
          (.set 7 (.bin .mul (.bin .rem (.var 5) (.const (.int .u32 100))) (.const (.int .u32 2))))))
         (.seq
          (.seq
           (.chk [(.bin .mul (.bin .rem (.var 4) (.const (.int .u32 100))) (.const (.int .u32 2)))])
          (.seq
           (.set 8 (.bin .mul (.bin .quo (.var 4) (.const (.int .u32 100))) (.const (.int .u32 2))))
          (.set 9 (.bin .mul (.bin .rem (.var 4) (.const (.int .u32 100))) (.const (.int .u32 2))))))
         (.seq
          (.seq
           .draw
          (.seq
           (.chk [(.idxStr (.const (.string ⟨#[48, 48, 48, 49, 48, 50, 48, 51, 48, 52, 48, 53, 48, 54, 48, 55, 48, 56, 48, 57, 49, 48, 49, 49, 49, 50, 49, 51, 49, 52, 49, 53, 49, 54, 49, 55, 49, 56, 49, 57, 50, 48, 50, 49, 50, 50, 50, 51, 50, 52, 50, 53, 50, 54, 50, 55, 50, 56, 50, 57, 51, 48, 51, 49, 51, 50, 51, 51, 51, 52, 51, 53, 51, 54, 51, 55, 51, 56, 51, 57, 52, 48, 52, 49, 52, 50, 52, 51, 52, 52, 52, 53, 52, 54, 52, 55, 52, 56, 52, 57, 53, 48, 53, 49, 53, 50, 53, 51, 53, 52, 53, 53, 53, 54, 53, 55, 53, 56, 53, 57, 54, 48, 54, 49, 54, 50, 54, 51, 54, 52, 54, 53, 54, 54, 54, 55, 54, 56, 54, 57, 55, 48, 55, 49, 55, 50, 55, 51, 55, 52, 55, 53, 55, 54, 55, 55, 55, 56, 55, 57, 56, 48, 56, 49, 56, 50, 56, 51, 56, 52, 56, 53, 56, 54, 56, 55, 56, 56, 56, 57, 57, 48, 57, 49, 57, 50, 57, 51, 57, 52, 57, 53, 57, 54, 57, 55, 57, 56, 57, 57]⟩)) (.var 7)), (.idxStr (.const (.string ⟨#[48, 48, 48, 49, 48, 50, 48, 51, 48, 52, 48, 53, 48, 54, 48, 55, 48, 56, 48, 57, 49, 48, 49, 49, 49, 50, 49, 51, 49, 52, 49, 53, 49, 54, 49, 55, 49, 56, 49, 57, 50, 48, 50, 49, 50, 50, 50, 51, 50, 52, 50, 53, 50, 54, 50, 55, 50, 56, 50, 57, 51, 48, 51, 49, 51, 50, 51, 51, 51, 52, 51, 53, 51, 54, 51, 55, 51, 56, 51, 57, 52, 48, 52, 49, 52, 50, 52, 51, 52, 52, 52, 53, 52, 54, 52, 55, 52, 56, 52, 57, 53, 48, 53, 49, 53, 50, 53, 51, 53, 52, 53, 53, 53, 54, 53, 55, 53, 56, 53, 57, 54, 48, 54, 49, 54, 50, 54, 51, 54, 52, 54, 53, 54, 54, 54, 55, 54, 56, 54, 57, 55, 48, 55, 49, 55, 50, 55, 51, 55, 52, 55, 53, 55, 54, 55, 55, 55, 56, 55, 57, 56, 48, 56, 49, 56, 50, 56, 51, 56, 52, 56, 53, 56, 54, 56, 55, 56, 56, 56, 57, 57, 48, 57, 49, 57, 50, 57, 51, 57, 52, 57, 53, 57, 54, 57, 55, 57, 56, 57, 57]⟩)) (.bin .add (.var 7) (.const (.int .u32 1)))), (.bin .sub (.var 2) (.const (.int .i64 2)))])
          (.seq
           (.store 1 (.ixSl 1 (.var 0) (.bin .sub (.var 2) (.const (.int .i64 1)))) (.idxStr (.const (.string ⟨#[48, 48, 48, 49, 48, 50, 48, 51, 48, 52, 48, 53, 48, 54, 48, 55, 48, 56, 48, 57, 49, 48, 49, 49, 49, 50, 49, 51, 49, 52, 49, 53, 49, 54, 49, 55, 49, 56, 49, 57, 50, 48, 50, 49, 50, 50, 50, 51, 50, 52, 50, 53, 50, 54, 50, 55, 50, 56, 50, 57, 51, 48, 51, 49, 51, 50, 51, 51, 51, 52, 51, 53, 51, 54, 51, 55, 51, 56, 51, 57, 52, 48, 52, 49, 52, 50, 52, 51, 52, 52, 52, 53, 52, 54, 52, 55, 52, 56, 52, 57, 53, 48, 53, 49, 53, 50, 53, 51, 53, 52, 53, 53, 53, 54, 53, 55, 53, 56, 53, 57, 54, 48, 54, 49, 54, 50, 54, 51, 54, 52, 54, 53, 54, 54, 54, 55, 54, 56, 54, 57, 55, 48, 55, 49, 55, 50, 55, 51, 55, 52, 55, 53, 55, 54, 55, 55, 55, 56, 55, 57, 56, 48, 56, 49, 56, 50, 56, 51, 56, 52, 56, 53, 56, 54, 56, 55, 56, 56, 56, 57, 57, 48, 57, 49, 57, 50, 57, 51, 57, 52, 57, 53, 57, 54, 57, 55, 57, 56, 57, 57]⟩)) (.bin .add (.var 7) (.const (.int .u32 1)))) [])
          (.store 1 (.ixSl 1 (.var 0) (.bin .sub (.var 2) (.const (.int .i64 2)))) (.idxStr (.const (.string ⟨#[48, 48, 48, 49, 48, 50, 48, 51, 48, 52, 48, 53, 48, 54, 48, 55, 48, 56, 48, 57, 49, 48, 49, 49, 49, 50, 49, 51, 49, 52, 49, 53, 49, 54, 49, 55, 49, 56, 49, 57, 50, 48, 50, 49, 50, 50, 50, 51, 50, 52, 50, 53, 50, 54, 50, 55, 50, 56, 50, 57, 51, 48, 51, 49, 51, 50, 51, 51, 51, 52, 51, 53, 51, 54, 51, 55, 51, 56, 51, 57, 52, 48, 52, 49, 52, 50, 52, 51, 52, 52, 52, 53, 52, 54, 52, 55, 52, 56, 52, 57, 53, 48, 53, 49, 53, 50, 53, 51, 53, 52, 53, 53, 53, 54, 53, 55, 53, 56, 53, 57, 54, 48, 54, 49, 54, 50, 54, 51, 54, 52, 54, 53, 54, 54, 54, 55, 54, 56, 54, 57, 55, 48, 55, 49, 55, 50, 55, 51, 55, 52, 55, 53, 55, 54, 55, 55, 55, 56, 55, 57, 56, 48, 56, 49, 56, 50, 56, 51, 56, 52, 56, 53, 56, 54, 56, 55, 56, 56, 56, 57, 57, 48, 57, 49, 57, 50, 57, 51, 57, 52, 57, 53, 57, 54, 57, 55, 57, 56, 57, 57]⟩)) (.var 7)) []))))
         (.seq
          (.seq
           .draw
          (.seq
           (.chk [(.idxStr (.const (.string ⟨#[48, 48, 48, 49, 48, 50, 48, 51, 48, 52, 48, 53, 48, 54, 48, 55, 48, 56, 48, 57, 49, 48, 49, 49, 49, 50, 49, 51, 49, 52, 49, 53, 49, 54, 49, 55, 49, 56, 49, 57, 50, 48, 50, 49, 50, 50, 50, 51, 50, 52, 50, 53, 50, 54, 50, 55, 50, 56, 50, 57, 51, 48, 51, 49, 51, 50, 51, 51, 51, 52, 51, 53, 51, 54, 51, 55, 51, 56, 51, 57, 52, 48, 52, 49, 52, 50, 52, 51, 52, 52, 52, 53, 52, 54, 52, 55, 52, 56, 52, 57, 53, 48, 53, 49, 53, 50, 53, 51, 53, 52, 53, 53, 53, 54, 53, 55, 53, 56, 53, 57, 54, 48, 54, 49, 54, 50, 54, 51, 54, 52, 54, 53, 54, 54, 54, 55, 54, 56, 54, 57, 55, 48, 55, 49, 55, 50, 55, 51, 55, 52, 55, 53, 55, 54, 55, 55, 55, 56, 55, 57, 56, 48, 56, 49, 56, 50, 56, 51, 56, 52, 56, 53, 56, 54, 56, 55, 56, 56, 56, 57, 57, 48, 57, 49, 57, 50, 57, 51, 57, 52, 57, 53, 57, 54, 57, 55, 57, 56, 57, 57]⟩)) (.var 6)), (.idxStr (.const (.string ⟨#[48, 48, 48, 49, 48, 50, 48, 51, 48, 52, 48, 53, 48, 54, 48, 55, 48, 56, 48, 57, 49, 48, 49, 49, 49, 50, 49, 51, 49, 52, 49, 53, 49, 54, 49, 55, 49, 56, 49, 57, 50, 48, 50, 49, 50, 50, 50, 51, 50, 52, 50, 53, 50, 54, 50, 55, 50, 56, 50, 57, 51, 48, 51, 49, 51, 50, 51, 51, 51, 52, 51, 53, 51, 54, 51, 55, 51, 56, 51, 57, 52, 48, 52, 49, 52, 50, 52, 51, 52, 52, 52, 53, 52, 54, 52, 55, 52, 56, 52, 57, 53, 48, 53, 49, 53, 50, 53, 51, 53, 52, 53, 53, 53, 54, 53, 55, 53, 56, 53, 57, 54, 48, 54, 49, 54, 50, 54, 51, 54, 52, 54, 53, 54, 54, 54, 55, 54, 56, 54, 57, 55, 48, 55, 49, 55, 50, 55, 51, 55, 52, 55, 53, 55, 54, 55, 55, 55, 56, 55, 57, 56, 48, 56, 49, 56, 50, 56, 51, 56, 52, 56, 53, 56, 54, 56, 55, 56, 56, 56, 57, 57, 48, 57, 49, 57, 50, 57, 51, 57, 52, 57, 53, 57, 54, 57, 55, 57, 56, 57, 57]⟩)) (.bin .add (.var 6) (.const (.int .u32 1)))), (.bin .sub (.var 2) (.const (.int .i64 4)))])
          (.seq
           (.store 1 (.ixSl 1 (.var 0) (.bin .sub (.var 2) (.const (.int .i64 3)))) (.idxStr (.const (.string ⟨#[48, 48, 48, 49, 48, 50, 48, 51, 48, 52, 48, 53, 48, 54, 48, 55, 48, 56, 48, 57, 49, 48, 49, 49, 49, 50, 49, 51, 49, 52, 49, 53, 49, 54, 49, 55, 49, 56, 49, 57, 50, 48, 50, 49, 50, 50, 50, 51, 50, 52, 50, 53, 50, 54, 50, 55, 50, 56, 50, 57, 51, 48, 51, 49, 51, 50, 51, 51, 51, 52, 51, 53, 51, 54, 51, 55, 51, 56, 51, 57, 52, 48, 52, 49, 52, 50, 52, 51, 52, 52, 52, 53, 52, 54, 52, 55, 52, 56, 52, 57, 53, 48, 53, 49, 53, 50, 53, 51, 53, 52, 53, 53, 53, 54, 53, 55, 53, 56, 53, 57, 54, 48, 54, 49, 54, 50, 54, 51, 54, 52, 54, 53, 54, 54, 54, 55, 54, 56, 54, 57, 55, 48, 55, 49, 55, 50, 55, 51, 55, 52, 55, 53, 55, 54, 55, 55, 55, 56, 55, 57, 56, 48, 56, 49, 56, 50, 56, 51, 56, 52, 56, 53, 56, 54, 56, 55, 56, 56, 56, 57, 57, 48, 57, 49, 57, 50, 57, 51, 57, 52, 57, 53, 57, 54, 57, 55, 57, 56, 57, 57]⟩)) (.bin .add (.var 6) (.const (.int .u32 1)))) [])
          (.store 1 (.ixSl 1 (.var 0) (.bin .sub (.var 2) (.const (.int .i64 4)))) (.idxStr (.const (.string ⟨#[48, 48, 48, 49, 48, 50, 48, 51, 48, 52, 48, 53, 48, 54, 48, 55, 48, 56, 48, 57, 49, 48, 49, 49, 49, 50, 49, 51, 49, 52, 49, 53, 49, 54, 49, 55, 49, 56, 49, 57, 50, 48, 50, 49, 50, 50, 50, 51, 50, 52, 50, 53, 50, 54, 50, 55, 50, 56, 50, 57, 51, 48, 51, 49, 51, 50, 51, 51, 51, 52, 51, 53, 51, 54, 51, 55, 51, 56, 51, 57, 52, 48, 52, 49, 52, 50, 52, 51, 52, 52, 52, 53, 52, 54, 52, 55, 52, 56, 52, 57, 53, 48, 53, 49, 53, 50, 53, 51, 53, 52, 53, 53, 53, 54, 53, 55, 53, 56, 53, 57, 54, 48, 54, 49, 54, 50, 54, 51, 54, 52, 54, 53, 54, 54, 54, 55, 54, 56, 54, 57, 55, 48, 55, 49, 55, 50, 55, 51, 55, 52, 55, 53, 55, 54, 55, 55, 55, 56, 55, 57, 56, 48, 56, 49, 56, 50, 56, 51, 56, 52, 56, 53, 56, 54, 56, 55, 56, 56, 56, 57, 57, 48, 57, 49, 57, 50, 57, 51, 57, 52, 57, 53, 57, 54, 57, 55, 57, 56, 57, 57]⟩)) (.var 6)) []))))
         (.seq
          (.seq
           .draw
          (.seq
           (.chk [(.idxStr (.const (.string ⟨#[48, 48, 48, 49, 48, 50, 48, 51, 48, 52, 48, 53, 48, 54, 48, 55, 48, 56, 48, 57, 49, 48, 49, 49, 49, 50, 49, 51, 49, 52, 49, 53, 49, 54, 49, 55, 49, 56, 49, 57, 50, 48, 50, 49, 50, 50, 50, 51, 50, 52, 50, 53, 50, 54, 50, 55, 50, 56, 50, 57, 51, 48, 51, 49, 51, 50, 51, 51, 51, 52, 51, 53, 51, 54, 51, 55, 51, 56, 51, 57, 52, 48, 52, 49, 52, 50, 52, 51, 52, 52, 52, 53, 52, 54, 52, 55, 52, 56, 52, 57, 53, 48, 53, 49, 53, 50, 53, 51, 53, 52, 53, 53, 53, 54, 53, 55, 53, 56, 53, 57, 54, 48, 54, 49, 54, 50, 54, 51, 54, 52, 54, 53, 54, 54, 54, 55, 54, 56, 54, 57, 55, 48, 55, 49, 55, 50, 55, 51, 55, 52, 55, 53, 55, 54, 55, 55, 55, 56, 55, 57, 56, 48, 56, 49, 56, 50, 56, 51, 56, 52, 56, 53, 56, 54, 56, 55, 56, 56, 56, 57, 57, 48, 57, 49, 57, 50, 57, 51, 57, 52, 57, 53, 57, 54, 57, 55, 57, 56, 57, 57]⟩)) (.var 9)), (.idxStr (.const (.string ⟨#[48, 48, 48, 49, 48, 50, 48, 51, 48, 52, 48, 53, 48, 54, 48, 55, 48, 56, 48, 57, 49, 48, 49, 49, 49, 50, 49, 51, 49, 52, 49, 53, 49, 54, 49, 55, 49, 56, 49, 57, 50, 48, 50, 49, 50, 50, 50, 51, 50, 52, 50, 53, 50, 54, 50, 55, 50, 56, 50, 57, 51, 48, 51, 49, 51, 50, 51, 51, 51, 52, 51, 53, 51, 54, 51, 55, 51, 56, 51, 57, 52, 48, 52, 49, 52, 50, 52, 51, 52, 52, 52, 53, 52, 54, 52, 55, 52, 56, 52, 57, 53, 48, 53, 49, 53, 50, 53, 51, 53, 52, 53, 53, 53, 54, 53, 55, 53, 56, 53, 57, 54, 48, 54, 49, 54, 50, 54, 51, 54, 52, 54, 53, 54, 54, 54, 55, 54, 56, 54, 57, 55, 48, 55, 49, 55, 50, 55, 51, 55, 52, 55, 53, 55, 54, 55, 55, 55, 56, 55, 57, 56, 48, 56, 49, 56, 50, 56, 51, 56, 52, 56, 53, 56, 54, 56, 55, 56, 56, 56, 57, 57, 48, 57, 49, 57, 50, 57, 51, 57, 52, 57, 53, 57, 54, 57, 55, 57, 56, 57, 57]⟩)) (.bin .add (.var 9) (.const (.int .u32 1)))), (.bin .sub (.var 2) (.const (.int .i64 6)))])
          (.seq
           (.store 1 (.ixSl 1 (.var 0) (.bin .sub (.var 2) (.const (.int .i64 5)))) (.idxStr (.const (.string ⟨#[48, 48, 48, 49, 48, 50, 48, 51, 48, 52, 48, 53, 48, 54, 48, 55, 48, 56, 48, 57, 49, 48, 49, 49, 49, 50, 49, 51, 49, 52, 49, 53, 49, 54, 49, 55, 49, 56, 49, 57, 50, 48, 50, 49, 50, 50, 50, 51, 50, 52, 50, 53, 50, 54, 50, 55, 50, 56, 50, 57, 51, 48, 51, 49, 51, 50, 51, 51, 51, 52, 51, 53, 51, 54, 51, 55, 51, 56, 51, 57, 52, 48, 52, 49, 52, 50, 52, 51, 52, 52, 52, 53, 52, 54, 52, 55, 52, 56, 52, 57, 53, 48, 53, 49, 53, 50, 53, 51, 53, 52, 53, 53, 53, 54, 53, 55, 53, 56, 53, 57, 54, 48, 54, 49, 54, 50, 54, 51, 54, 52, 54, 53, 54, 54, 54, 55, 54, 56, 54, 57, 55, 48, 55, 49, 55, 50, 55, 51, 55, 52, 55, 53, 55, 54, 55, 55, 55, 56, 55, 57, 56, 48, 56, 49, 56, 50, 56, 51, 56, 52, 56, 53, 56, 54, 56, 55, 56, 56, 56, 57, 57, 48, 57, 49, 57, 50, 57, 51, 57, 52, 57, 53, 57, 54, 57, 55, 57, 56, 57, 57]⟩)) (.bin .add (.var 9) (.const (.int .u32 1)))) [])
          (.store 1 (.ixSl 1 (.var 0) (.bin .sub (.var 2) (.const (.int .i64 6)))) (.idxStr (.const (.string ⟨#[48, 48, 48, 49, 48, 50, 48, 51, 48, 52, 48, 53, 48, 54, 48, 55, 48, 56, 48, 57, 49, 48, 49, 49, 49, 50, 49, 51, 49, 52, 49, 53, 49, 54, 49, 55, 49, 56, 49, 57, 50, 48, 50, 49, 50, 50, 50, 51, 50, 52, 50, 53, 50, 54, 50, 55, 50, 56, 50, 57, 51, 48, 51, 49, 51, 50, 51, 51, 51, 52, 51, 53, 51, 54, 51, 55, 51, 56, 51, 57, 52, 48, 52, 49, 52, 50, 52, 51, 52, 52, 52, 53, 52, 54, 52, 55, 52, 56, 52, 57, 53, 48, 53, 49, 53, 50, 53, 51, 53, 52, 53, 53, 53, 54, 53, 55, 53, 56, 53, 57, 54, 48, 54, 49, 54, 50, 54, 51, 54, 52, 54, 53, 54, 54, 54, 55, 54, 56, 54, 57, 55, 48, 55, 49, 55, 50, 55, 51, 55, 52, 55, 53, 55, 54, 55, 55, 55, 56, 55, 57, 56, 48, 56, 49, 56, 50, 56, 51, 56, 52, 56, 53, 56, 54, 56, 55, 56, 56, 56, 57, 57, 48, 57, 49, 57, 50, 57, 51, 57, 52, 57, 53, 57, 54, 57, 55, 57, 56, 57, 57]⟩)) (.var 9)) []))))
         (.seq
          (.seq
           .draw
          (.seq
           (.chk [(.idxStr (.const (.string ⟨#[48, 48, 48, 49, 48, 50, 48, 51, 48, 52, 48, 53, 48, 54, 48, 55, 48, 56, 48, 57, 49, 48, 49, 49, 49, 50, 49, 51, 49, 52, 49, 53, 49, 54, 49, 55, 49, 56, 49, 57, 50, 48, 50, 49, 50, 50, 50, 51, 50, 52, 50, 53, 50, 54, 50, 55, 50, 56, 50, 57, 51, 48, 51, 49, 51, 50, 51, 51, 51, 52, 51, 53, 51, 54, 51, 55, 51, 56, 51, 57, 52, 48, 52, 49, 52, 50, 52, 51, 52, 52, 52, 53, 52, 54, 52, 55, 52, 56, 52, 57, 53, 48, 53, 49, 53, 50, 53, 51, 53, 52, 53, 53, 53, 54, 53, 55, 53, 56, 53, 57, 54, 48, 54, 49, 54, 50, 54, 51, 54, 52, 54, 53, 54, 54, 54, 55, 54, 56, 54, 57, 55, 48, 55, 49, 55, 50, 55, 51, 55, 52, 55, 53, 55, 54, 55, 55, 55, 56, 55, 57, 56, 48, 56, 49, 56, 50, 56, 51, 56, 52, 56, 53, 56, 54, 56, 55, 56, 56, 56, 57, 57, 48, 57, 49, 57, 50, 57, 51, 57, 52, 57, 53, 57, 54, 57, 55, 57, 56, 57, 57]⟩)) (.var 8)), (.idxStr (.const (.string ⟨#[48, 48, 48, 49, 48, 50, 48, 51, 48, 52, 48, 53, 48, 54, 48, 55, 48, 56, 48, 57, 49, 48, 49, 49, 49, 50, 49, 51, 49, 52, 49, 53, 49, 54, 49, 55, 49, 56, 49, 57, 50, 48, 50, 49, 50, 50, 50, 51, 50, 52, 50, 53, 50, 54, 50, 55, 50, 56, 50, 57, 51, 48, 51, 49, 51, 50, 51, 51, 51, 52, 51, 53, 51, 54, 51, 55, 51, 56, 51, 57, 52, 48, 52, 49, 52, 50, 52, 51, 52, 52, 52, 53, 52, 54, 52, 55, 52, 56, 52, 57, 53, 48, 53, 49, 53, 50, 53, 51, 53, 52, 53, 53, 53, 54, 53, 55, 53, 56, 53, 57, 54, 48, 54, 49, 54, 50, 54, 51, 54, 52, 54, 53, 54, 54, 54, 55, 54, 56, 54, 57, 55, 48, 55, 49, 55, 50, 55, 51, 55, 52, 55, 53, 55, 54, 55, 55, 55, 56, 55, 57, 56, 48, 56, 49, 56, 50, 56, 51, 56, 52, 56, 53, 56, 54, 56, 55, 56, 56, 56, 57, 57, 48, 57, 49, 57, 50, 57, 51, 57, 52, 57, 53, 57, 54, 57, 55, 57, 56, 57, 57]⟩)) (.bin .add (.var 8) (.const (.int .u32 1)))), (.bin .sub (.var 2) (.const (.int .i64 8)))])
          (.seq
           (.store 1 (.ixSl 1 (.var 0) (.bin .sub (.var 2) (.const (.int .i64 7)))) (.idxStr (.const (.string ⟨#[48, 48, 48, 49, 48, 50, 48, 51, 48, 52, 48, 53, 48, 54, 48, 55, 48, 56, 48, 57, 49, 48, 49, 49, 49, 50, 49, 51, 49, 52, 49, 53, 49, 54, 49, 55, 49, 56, 49, 57, 50, 48, 50, 49, 50, 50, 50, 51, 50, 52, 50, 53, 50, 54, 50, 55, 50, 56, 50, 57, 51, 48, 51, 49, 51, 50, 51, 51, 51, 52, 51, 53, 51, 54, 51, 55, 51, 56, 51, 57, 52, 48, 52, 49, 52, 50, 52, 51, 52, 52, 52, 53, 52, 54, 52, 55, 52, 56, 52, 57, 53, 48, 53, 49, 53, 50, 53, 51, 53, 52, 53, 53, 53, 54, 53, 55, 53, 56, 53, 57, 54, 48, 54, 49, 54, 50, 54, 51, 54, 52, 54, 53, 54, 54, 54, 55, 54, 56, 54, 57, 55, 48, 55, 49, 55, 50, 55, 51, 55, 52, 55, 53, 55, 54, 55, 55, 55, 56, 55, 57, 56, 48, 56, 49, 56, 50, 56, 51, 56, 52, 56, 53, 56, 54, 56, 55, 56, 56, 56, 57, 57, 48, 57, 49, 57, 50, 57, 51, 57, 52, 57, 53, 57, 54, 57, 55, 57, 56, 57, 57]⟩)) (.bin .add (.var 8) (.const (.int .u32 1)))) [])
          (.store 1 (.ixSl 1 (.var 0) (.bin .sub (.var 2) (.const (.int .i64 8)))) (.idxStr (.const (.string ⟨#[48, 48, 48, 49, 48, 50, 48, 51, 48, 52, 48, 53, 48, 54, 48, 55, 48, 56, 48, 57, 49, 48, 49, 49, 49, 50, 49, 51, 49, 52, 49, 53, 49, 54, 49, 55, 49, 56, 49, 57, 50, 48, 50, 49, 50, 50, 50, 51, 50, 52, 50, 53, 50, 54, 50, 55, 50, 56, 50, 57, 51, 48, 51, 49, 51, 50, 51, 51, 51, 52, 51, 53, 51, 54, 51, 55, 51, 56, 51, 57, 52, 48, 52, 49, 52, 50, 52, 51, 52, 52, 52, 53, 52, 54, 52, 55, 52, 56, 52, 57, 53, 48, 53, 49, 53, 50, 53, 51, 53, 52, 53, 53, 53, 54, 53, 55, 53, 56, 53, 57, 54, 48, 54, 49, 54, 50, 54, 51, 54, 52, 54, 53, 54, 54, 54, 55, 54, 56, 54, 57, 55, 48, 55, 49, 55, 50, 55, 51, 55, 52, 55, 53, 55, 54, 55, 55, 55, 56, 55, 57, 56, 48, 56, 49, 56, 50, 56, 51, 56, 52, 56, 53, 56, 54, 56, 55, 56, 56, 56, 57, 57, 48, 57, 49, 57, 50, 57, 51, 57, 52, 57, 53, 57, 54, 57, 55, 57, 56, 57, 57]⟩)) (.var 8)) []))))
         (.set 2 (.bin .sub (.var 2) (.const (.int .i64 8)))))))))))))))))
  (.seq
   (.set 10 (.conv .u32 (.var 1)))
  (.seq
   (.cond (.bin .geq (.var 2) (.const (.int .i64 4)))
     (.seq
      (.set 11 (.bin .rem (.var 10) (.const (.int .u32 10000))))
     (.seq
      (.set 10 (.bin .quo (.var 10) (.const (.int .u32 10000))))
     (.seq
      (.seq
       (.chk [(.bin .mul (.bin .rem (.var 11) (.const (.int .u32 100))) (.const (.int .u32 2)))])
      (.seq
       (.set 12 (.bin .mul (.bin .quo (.var 11) (.const (.int .u32 100))) (.const (.int .u32 2))))
      (.set 13 (.bin .mul (.bin .rem (.var 11) (.const (.int .u32 100))) (.const (.int .u32 2))))))
     (.seq
      (.seq
       .draw
      (.seq
       (.chk [(.idxStr (.const (.string ⟨#[48, 48, 48, 49, 48, 50, 48, 51, 48, 52, 48, 53, 48, 54, 48, 55, 48, 56, 48, 57, 49, 48, 49, 49, 49, 50, 49, 51, 49, 52, 49, 53, 49, 54, 49, 55, 49, 56, 49, 57, 50, 48, 50, 49, 50, 50, 50, 51, 50, 52, 50, 53, 50, 54, 50, 55, 50, 56, 50, 57, 51, 48, 51, 49, 51, 50, 51, 51, 51, 52, 51, 53, 51, 54, 51, 55, 51, 56, 51, 57, 52, 48, 52, 49, 52, 50, 52, 51, 52, 52, 52, 53, 52, 54, 52, 55, 52, 56, 52, 57, 53, 48, 53, 49, 53, 50, 53, 51, 53, 52, 53, 53, 53, 54, 53, 55, 53, 56, 53, 57, 54, 48, 54, 49, 54, 50, 54, 51, 54, 52, 54, 53, 54, 54, 54, 55, 54, 56, 54, 57, 55, 48, 55, 49, 55, 50, 55, 51, 55, 52, 55, 53, 55, 54, 55, 55, 55, 56, 55, 57, 56, 48, 56, 49, 56, 50, 56, 51, 56, 52, 56, 53, 56, 54, 56, 55, 56, 56, 56, 57, 57, 48, 57, 49, 57, 50, 57, 51, 57, 52, 57, 53, 57, 54, 57, 55, 57, 56, 57, 57]⟩)) (.var 13)), (.idxStr (.const (.string ⟨#[48, 48, 48, 49, 48, 50, 48, 51, 48, 52, 48, 53, 48, 54, 48, 55, 48, 56, 48, 57, 49, 48, 49, 49, 49, 50, 49, 51, 49, 52, 49, 53, 49, 54, 49, 55, 49, 56, 49, 57, 50, 48, 50, 49, 50, 50, 50, 51, 50, 52, 50, 53, 50, 54, 50, 55, 50, 56, 50, 57, 51, 48, 51, 49, 51, 50, 51, 51, 51, 52, 51, 53, 51, 54, 51, 55, 51, 56, 51, 57, 52, 48, 52, 49, 52, 50, 52, 51, 52, 52, 52, 53, 52, 54, 52, 55, 52, 56, 52, 57, 53, 48, 53, 49, 53, 50, 53, 51, 53, 52, 53, 53, 53, 54, 53, 55, 53, 56, 53, 57, 54, 48, 54, 49, 54, 50, 54, 51, 54, 52, 54, 53, 54, 54, 54, 55, 54, 56, 54, 57, 55, 48, 55, 49, 55, 50, 55, 51, 55, 52, 55, 53, 55, 54, 55, 55, 55, 56, 55, 57, 56, 48, 56, 49, 56, 50, 56, 51, 56, 52, 56, 53, 56, 54, 56, 55, 56, 56, 56, 57, 57, 48, 57, 49, 57, 50, 57, 51, 57, 52, 57, 53, 57, 54, 57, 55, 57, 56, 57, 57]⟩)) (.bin .add (.var 13) (.const (.int .u32 1)))), (.bin .sub (.var 2) (.const (.int .i64 2)))])
      (.seq
       (.store 1 (.ixSl 1 (.var 0) (.bin .sub (.var 2) (.const (.int .i64 1)))) (.idxStr (.const (.string ⟨#[48, 48, 48, 49, 48, 50, 48, 51, 48, 52, 48, 53, 48, 54, 48, 55, 48, 56, 48, 57, 49, 48, 49, 49, 49, 50, 49, 51, 49, 52, 49, 53, 49, 54, 49, 55, 49, 56, 49, 57, 50, 48, 50, 49, 50, 50, 50, 51, 50, 52, 50, 53, 50, 54, 50, 55, 50, 56, 50, 57, 51, 48, 51, 49, 51, 50, 51, 51, 51, 52, 51, 53, 51, 54, 51, 55, 51, 56, 51, 57, 52, 48, 52, 49, 52, 50, 52, 51, 52, 52, 52, 53, 52, 54, 52, 55, 52, 56, 52, 57, 53, 48, 53, 49, 53, 50, 53, 51, 53, 52, 53, 53, 53, 54, 53, 55, 53, 56, 53, 57, 54, 48, 54, 49, 54, 50, 54, 51, 54, 52, 54, 53, 54, 54, 54, 55, 54, 56, 54, 57, 55, 48, 55, 49, 55, 50, 55, 51, 55, 52, 55, 53, 55, 54, 55, 55, 55, 56, 55, 57, 56, 48, 56, 49, 56, 50, 56, 51, 56, 52, 56, 53, 56, 54, 56, 55, 56, 56, 56, 57, 57, 48, 57, 49, 57, 50, 57, 51, 57, 52, 57, 53, 57, 54, 57, 55, 57, 56, 57, 57]⟩)) (.bin .add (.var 13) (.const (.int .u32 1)))) [])
      (.store 1 (.ixSl 1 (.var 0) (.bin .sub (.var 2) (.const (.int .i64 2)))) (.idxStr (.const (.string ⟨#[48, 48, 48, 49, 48, 50, 48, 51, 48, 52, 48, 53, 48, 54, 48, 55, 48, 56, 48, 57, 49, 48, 49, 49, 49, 50, 49, 51, 49, 52, 49, 53, 49, 54, 49, 55, 49, 56, 49, 57, 50, 48, 50, 49, 50, 50, 50, 51, 50, 52, 50, 53, 50, 54, 50, 55, 50, 56, 50, 57, 51, 48, 51, 49, 51, 50, 51, 51, 51, 52, 51, 53, 51, 54, 51, 55, 51, 56, 51, 57, 52, 48, 52, 49, 52, 50, 52, 51, 52, 52, 52, 53, 52, 54, 52, 55, 52, 56, 52, 57, 53, 48, 53, 49, 53, 50, 53, 51, 53, 52, 53, 53, 53, 54, 53, 55, 53, 56, 53, 57, 54, 48, 54, 49, 54, 50, 54, 51, 54, 52, 54, 53, 54, 54, 54, 55, 54, 56, 54, 57, 55, 48, 55, 49, 55, 50, 55, 51, 55, 52, 55, 53, 55, 54, 55, 55, 55, 56, 55, 57, 56, 48, 56, 49, 56, 50, 56, 51, 56, 52, 56, 53, 56, 54, 56, 55, 56, 56, 56, 57, 57, 48, 57, 49, 57, 50, 57, 51, 57, 52, 57, 53, 57, 54, 57, 55, 57, 56, 57, 57]⟩)) (.var 13)) []))))
     (.seq
      (.seq
       .draw
      (.seq
       (.chk [(.idxStr (.const (.string ⟨#[48, 48, 48, 49, 48, 50, 48, 51, 48, 52, 48, 53, 48, 54, 48, 55, 48, 56, 48, 57, 49, 48, 49, 49, 49, 50, 49, 51, 49, 52, 49, 53, 49, 54, 49, 55, 49, 56, 49, 57, 50, 48, 50, 49, 50, 50, 50, 51, 50, 52, 50, 53, 50, 54, 50, 55, 50, 56, 50, 57, 51, 48, 51, 49, 51, 50, 51, 51, 51, 52, 51, 53, 51, 54, 51, 55, 51, 56, 51, 57, 52, 48, 52, 49, 52, 50, 52, 51, 52, 52, 52, 53, 52, 54, 52, 55, 52, 56, 52, 57, 53, 48, 53, 49, 53, 50, 53, 51, 53, 52, 53, 53, 53, 54, 53, 55, 53, 56, 53, 57, 54, 48, 54, 49, 54, 50, 54, 51, 54, 52, 54, 53, 54, 54, 54, 55, 54, 56, 54, 57, 55, 48, 55, 49, 55, 50, 55, 51, 55, 52, 55, 53, 55, 54, 55, 55, 55, 56, 55, 57, 56, 48, 56, 49, 56, 50, 56, 51, 56, 52, 56, 53, 56, 54, 56, 55, 56, 56, 56, 57, 57, 48, 57, 49, 57, 50, 57, 51, 57, 52, 57, 53, 57, 54, 57, 55, 57, 56, 57, 57]⟩)) (.var 12)), (.idxStr (.const (.string ⟨#[48, 48, 48, 49, 48, 50, 48, 51, 48, 52, 48, 53, 48, 54, 48, 55, 48, 56, 48, 57, 49, 48, 49, 49, 49, 50, 49, 51, 49, 52, 49, 53, 49, 54, 49, 55, 49, 56, 49, 57, 50, 48, 50, 49, 50, 50, 50, 51, 50, 52, 50, 53, 50, 54, 50, 55, 50, 56, 50, 57, 51, 48, 51, 49, 51, 50, 51, 51, 51, 52, 51, 53, 51, 54, 51, 55, 51, 56, 51, 57, 52, 48, 52, 49, 52, 50, 52, 51, 52, 52, 52, 53, 52, 54, 52, 55, 52, 56, 52, 57, 53, 48, 53, 49, 53, 50, 53, 51, 53, 52, 53, 53, 53, 54, 53, 55, 53, 56, 53, 57, 54, 48, 54, 49, 54, 50, 54, 51, 54, 52, 54, 53, 54, 54, 54, 55, 54, 56, 54, 57, 55, 48, 55, 49, 55, 50, 55, 51, 55, 52, 55, 53, 55, 54, 55, 55, 55, 56, 55, 57, 56, 48, 56, 49, 56, 50, 56, 51, 56, 52, 56, 53, 56, 54, 56, 55, 56, 56, 56, 57, 57, 48, 57, 49, 57, 50, 57, 51, 57, 52, 57, 53, 57, 54, 57, 55, 57, 56, 57, 57]⟩)) (.bin .add (.var 12) (.const (.int .u32 1)))), (.bin .sub (.var 2) (.const (.int .i64 4)))])
      (.seq
       (.store 1 (.ixSl 1 (.var 0) (.bin .sub (.var 2) (.const (.int .i64 3)))) (.idxStr (.const (.string ⟨#[48, 48, 48, 49, 48, 50, 48, 51, 48, 52, 48, 53, 48, 54, 48, 55, 48, 56, 48, 57, 49, 48, 49, 49, 49, 50, 49, 51, 49, 52, 49, 53, 49, 54, 49, 55, 49, 56, 49, 57, 50, 48, 50, 49, 50, 50, 50, 51, 50, 52, 50, 53, 50, 54, 50, 55, 50, 56, 50, 57, 51, 48, 51, 49, 51, 50, 51, 51, 51, 52, 51, 53, 51, 54, 51, 55, 51, 56, 51, 57, 52, 48, 52, 49, 52, 50, 52, 51, 52, 52, 52, 53, 52, 54, 52, 55, 52, 56, 52, 57, 53, 48, 53, 49, 53, 50, 53, 51, 53, 52, 53, 53, 53, 54, 53, 55, 53, 56, 53, 57, 54, 48, 54, 49, 54, 50, 54, 51, 54, 52, 54, 53, 54, 54, 54, 55, 54, 56, 54, 57, 55, 48, 55, 49, 55, 50, 55, 51, 55, 52, 55, 53, 55, 54, 55, 55, 55, 56, 55, 57, 56, 48, 56, 49, 56, 50, 56, 51, 56, 52, 56, 53, 56, 54, 56, 55, 56, 56, 56, 57, 57, 48, 57, 49, 57, 50, 57, 51, 57, 52, 57, 53, 57, 54, 57, 55, 57, 56, 57, 57]⟩)) (.bin .add (.var 12) (.const (.int .u32 1)))) [])
      (.store 1 (.ixSl 1 (.var 0) (.bin .sub (.var 2) (.const (.int .i64 4)))) (.idxStr (.const (.string ⟨#[48, 48, 48, 49, 48, 50, 48, 51, 48, 52, 48, 53, 48, 54, 48, 55, 48, 56, 48, 57, 49, 48, 49, 49, 49, 50, 49, 51, 49, 52, 49, 53, 49, 54, 49, 55, 49, 56, 49, 57, 50, 48, 50, 49, 50, 50, 50, 51, 50, 52, 50, 53, 50, 54, 50, 55, 50, 56, 50, 57, 51, 48, 51, 49, 51, 50, 51, 51, 51, 52, 51, 53, 51, 54, 51, 55, 51, 56, 51, 57, 52, 48, 52, 49, 52, 50, 52, 51, 52, 52, 52, 53, 52, 54, 52, 55, 52, 56, 52, 57, 53, 48, 53, 49, 53, 50, 53, 51, 53, 52, 53, 53, 53, 54, 53, 55, 53, 56, 53, 57, 54, 48, 54, 49, 54, 50, 54, 51, 54, 52, 54, 53, 54, 54, 54, 55, 54, 56, 54, 57, 55, 48, 55, 49, 55, 50, 55, 51, 55, 52, 55, 53, 55, 54, 55, 55, 55, 56, 55, 57, 56, 48, 56, 49, 56, 50, 56, 51, 56, 52, 56, 53, 56, 54, 56, 55, 56, 56, 56, 57, 57, 48, 57, 49, 57, 50, 57, 51, 57, 52, 57, 53, 57, 54, 57, 55, 57, 56, 57, 57]⟩)) (.var 12)) []))))
     (.set 2 (.bin .sub (.var 2) (.const (.int .i64 4)))))))))
     .skip)
  (.seq
   (.cond (.bin .geq (.var 2) (.const (.int .i64 2)))
     (.seq
      (.set 14 (.bin .mul (.bin .rem (.var 10) (.const (.int .u32 100))) (.const (.int .u32 2))))
     (.seq
      (.set 10 (.bin .quo (.var 10) (.const (.int .u32 100))))
     (.seq
      (.seq
       .draw
      (.seq
       (.chk [(.idxStr (.const (.string ⟨#[48, 48, 48, 49, 48, 50, 48, 51, 48, 52, 48, 53, 48, 54, 48, 55, 48, 56, 48, 57, 49, 48, 49, 49, 49, 50, 49, 51, 49, 52, 49, 53, 49, 54, 49, 55, 49, 56, 49, 57, 50, 48, 50, 49, 50, 50, 50, 51, 50, 52, 50, 53, 50, 54, 50, 55, 50, 56, 50, 57, 51, 48, 51, 49, 51, 50, 51, 51, 51, 52, 51, 53, 51, 54, 51, 55, 51, 56, 51, 57, 52, 48, 52, 49, 52, 50, 52, 51, 52, 52, 52, 53, 52, 54, 52, 55, 52, 56, 52, 57, 53, 48, 53, 49, 53, 50, 53, 51, 53, 52, 53, 53, 53, 54, 53, 55, 53, 56, 53, 57, 54, 48, 54, 49, 54, 50, 54, 51, 54, 52, 54, 53, 54, 54, 54, 55, 54, 56, 54, 57, 55, 48, 55, 49, 55, 50, 55, 51, 55, 52, 55, 53, 55, 54, 55, 55, 55, 56, 55, 57, 56, 48, 56, 49, 56, 50, 56, 51, 56, 52, 56, 53, 56, 54, 56, 55, 56, 56, 56, 57, 57, 48, 57, 49, 57, 50, 57, 51, 57, 52, 57, 53, 57, 54, 57, 55, 57, 56, 57, 57]⟩)) (.var 14)), (.idxStr (.const (.string ⟨#[48, 48, 48, 49, 48, 50, 48, 51, 48, 52, 48, 53, 48, 54, 48, 55, 48, 56, 48, 57, 49, 48, 49, 49, 49, 50, 49, 51, 49, 52, 49, 53, 49, 54, 49, 55, 49, 56, 49, 57, 50, 48, 50, 49, 50, 50, 50, 51, 50, 52, 50, 53, 50, 54, 50, 55, 50, 56, 50, 57, 51, 48, 51, 49, 51, 50, 51, 51, 51, 52, 51, 53, 51, 54, 51, 55, 51, 56, 51, 57, 52, 48, 52, 49, 52, 50, 52, 51, 52, 52, 52, 53, 52, 54, 52, 55, 52, 56, 52, 57, 53, 48, 53, 49, 53, 50, 53, 51, 53, 52, 53, 53, 53, 54, 53, 55, 53, 56, 53, 57, 54, 48, 54, 49, 54, 50, 54, 51, 54, 52, 54, 53, 54, 54, 54, 55, 54, 56, 54, 57, 55, 48, 55, 49, 55, 50, 55, 51, 55, 52, 55, 53, 55, 54, 55, 55, 55, 56, 55, 57, 56, 48, 56, 49, 56, 50, 56, 51, 56, 52, 56, 53, 56, 54, 56, 55, 56, 56, 56, 57, 57, 48, 57, 49, 57, 50, 57, 51, 57, 52, 57, 53, 57, 54, 57, 55, 57, 56, 57, 57]⟩)) (.bin .add (.var 14) (.const (.int .u32 1)))), (.bin .sub (.var 2) (.const (.int .i64 2)))])
      (.seq
       (.store 1 (.ixSl 1 (.var 0) (.bin .sub (.var 2) (.const (.int .i64 1)))) (.idxStr (.const (.string ⟨#[48, 48, 48, 49, 48, 50, 48, 51, 48, 52, 48, 53, 48, 54, 48, 55, 48, 56, 48, 57, 49, 48, 49, 49, 49, 50, 49, 51, 49, 52, 49, 53, 49, 54, 49, 55, 49, 56, 49, 57, 50, 48, 50, 49, 50, 50, 50, 51, 50, 52, 50, 53, 50, 54, 50, 55, 50, 56, 50, 57, 51, 48, 51, 49, 51, 50, 51, 51, 51, 52, 51, 53, 51, 54, 51, 55, 51, 56, 51, 57, 52, 48, 52, 49, 52, 50, 52, 51, 52, 52, 52, 53, 52, 54, 52, 55, 52, 56, 52, 57, 53, 48, 53, 49, 53, 50, 53, 51, 53, 52, 53, 53, 53, 54, 53, 55, 53, 56, 53, 57, 54, 48, 54, 49, 54, 50, 54, 51, 54, 52, 54, 53, 54, 54, 54, 55, 54, 56, 54, 57, 55, 48, 55, 49, 55, 50, 55, 51, 55, 52, 55, 53, 55, 54, 55, 55, 55, 56, 55, 57, 56, 48, 56, 49, 56, 50, 56, 51, 56, 52, 56, 53, 56, 54, 56, 55, 56, 56, 56, 57, 57, 48, 57, 49, 57, 50, 57, 51, 57, 52, 57, 53, 57, 54, 57, 55, 57, 56, 57, 57]⟩)) (.bin .add (.var 14) (.const (.int .u32 1)))) [])
      (.store 1 (.ixSl 1 (.var 0) (.bin .sub (.var 2) (.const (.int .i64 2)))) (.idxStr (.const (.string ⟨#[48, 48, 48, 49, 48, 50, 48, 51, 48, 52, 48, 53, 48, 54, 48, 55, 48, 56, 48, 57, 49, 48, 49, 49, 49, 50, 49, 51, 49, 52, 49, 53, 49, 54, 49, 55, 49, 56, 49, 57, 50, 48, 50, 49, 50, 50, 50, 51, 50, 52, 50, 53, 50, 54, 50, 55, 50, 56, 50, 57, 51, 48, 51, 49, 51, 50, 51, 51, 51, 52, 51, 53, 51, 54, 51, 55, 51, 56, 51, 57, 52, 48, 52, 49, 52, 50, 52, 51, 52, 52, 52, 53, 52, 54, 52, 55, 52, 56, 52, 57, 53, 48, 53, 49, 53, 50, 53, 51, 53, 52, 53, 53, 53, 54, 53, 55, 53, 56, 53, 57, 54, 48, 54, 49, 54, 50, 54, 51, 54, 52, 54, 53, 54, 54, 54, 55, 54, 56, 54, 57, 55, 48, 55, 49, 55, 50, 55, 51, 55, 52, 55, 53, 55, 54, 55, 55, 55, 56, 55, 57, 56, 48, 56, 49, 56, 50, 56, 51, 56, 52, 56, 53, 56, 54, 56, 55, 56, 56, 56, 57, 57, 48, 57, 49, 57, 50, 57, 51, 57, 52, 57, 53, 57, 54, 57, 55, 57, 56, 57, 57]⟩)) (.var 14)) []))))
     (.set 2 (.bin .sub (.var 2) (.const (.int .i64 2)))))))
     .skip)
  (.cond (.bin .gtr (.var 2) (.const (.int .i64 0)))
    (.store 1 (.ixSl 1 (.var 0) (.const (.int .i64 0))) (.conv .u8 (.bin .add (.const (.int .u32 48)) (.var 10))) [])
    .skip))))))
abbrev v_internal_strconv_formatBase10 : List Nat := [0, 1, 4, 5, 6, 7, 8, 9, 10, 11, 12, 13, 14, 15, 16]
abbrev k_internal_strconv_formatBase10 : List (List Nat) := [[0, 1, 2]]
abbrev r_internal_strconv_formatBase10 : List Ex := []
theorem ok_internal_strconv_formatBase10 : compile Tryz.prog Tryz.f90 v_internal_strconv_formatBase10 k_internal_strconv_formatBase10 = some (c_internal_strconv_formatBase10, r_internal_strconv_formatBase10) := by kernel_rfl

/- internal/strconv.formatBits -/
def c_internal_strconv_formatBits : Cmd :=
  (.seq
   (.seq
    (.set 5 (.const (.slice none 0 0)))
   (.set 6 (.const (.string ⟨#[]⟩))))
  (.seq
   (.cond (.pick (.pick (.bin .lss (.var 2) (.const (.int .i64 2))) (.const (.bool true)) (.bin .eql (.var 2) (.const (.int .i64 10)))) (.const (.bool true)) (.bin .gtr (.var 2) (.const (.int .i64 36))))
     (.seq
      (.chk [(.mkif 9 (.const (.string ⟨#[115, 116, 114, 99, 111, 110, 118, 58, 32, 105, 108, 108, 101, 103, 97, 108, 32, 65, 112, 112, 101, 110, 100, 73, 110, 116, 47, 70, 111, 114, 109, 97, 116, 73, 110, 116, 32, 98, 97, 115, 101]⟩)))])
     .die)
     .skip)
  (.seq
   (.new (some 7) 148 (.const (.agg (Array.replicate 65 (.int .u8 0)))) [])
  (.seq
   (.set 8 (.const (.int .i64 65)))
  (.seq
   (.cond (.var 3)
     (.set 1 (.un .neg (.var 1)))
     .skip)
  (.seq
   (.seq
    (.call (some 9) 114 [(.var 2)] [])
   (.cond (.var 9)
     (.seq
      (.seq
       (.call (some 10) 115 [(.conv .u64 (.var 2))] [])
      (.set 11 (.conv .u64 (.var 10))))
     (.seq
      (.set 12 (.conv .u64 (.var 2)))
     (.seq
      (.set 13 (.bin .sub (.conv .u64 (.var 2)) (.const (.int .u64 1))))
     (.seq
      (.block 0
        (.loop [0, 1, 3, 4, 5, 6, 7, 8, 11, 12, 13]
          (.seq
           (.cond (.bin .geq (.var 1) (.var 12))
             .skip
             (.exit 0))
          (.block 1
            (.seq
             (.set 8 (.bin .sub (.var 8) (.const (.int .i64 1))))
            (.seq
             (.seq
              (.chk [(.idxStr (.const (.string ⟨#[48, 49, 50, 51, 52, 53, 54, 55, 56, 57, 97, 98, 99, 100, 101, 102, 103, 104, 105, 106, 107, 108, 109, 110, 111, 112, 113, 114, 115, 116, 117, 118, 119, 120, 121, 122]⟩)) (.bin .and (.var 1) (.var 13)))])
             (.store 1 (.ixArr 65 1 (.var 7) (.var 8)) (.idxStr (.const (.string ⟨#[48, 49, 50, 51, 52, 53, 54, 55, 56, 57, 97, 98, 99, 100, 101, 102, 103, 104, 105, 106, 107, 108, 109, 110, 111, 112, 113, 114, 115, 116, 117, 118, 119, 120, 121, 122]⟩)) (.bin .and (.var 1) (.var 13))) []))
            (.set 1 (.bin .shr (.var 1) (.var 11)))))))))
     (.seq
      (.set 8 (.bin .sub (.var 8) (.const (.int .i64 1))))
     (.seq
      (.chk [(.idxStr (.const (.string ⟨#[48, 49, 50, 51, 52, 53, 54, 55, 56, 57, 97, 98, 99, 100, 101, 102, 103, 104, 105, 106, 107, 108, 109, 110, 111, 112, 113, 114, 115, 116, 117, 118, 119, 120, 121, 122]⟩)) (.var 1))])
     (.store 1 (.ixArr 65 1 (.var 7) (.var 8)) (.idxStr (.const (.string ⟨#[48, 49, 50, 51, 52, 53, 54, 55, 56, 57, 97, 98, 99, 100, 101, 102, 103, 104, 105, 106, 107, 108, 109, 110, 111, 112, 113, 114, 115, 116, 117, 118, 119, 120, 121, 122]⟩)) (.var 1)) [])))))))
     (.seq
      (.set 14 (.conv .u64 (.var 2)))
     (.seq
      (.block 2
        (.loop [0, 1, 3, 4, 5, 6, 7, 8, 14]
          (.seq
           (.cond (.bin .geq (.var 1) (.var 14))
             .skip
             (.exit 2))
          (.block 3
            (.seq
             (.set 8 (.bin .sub (.var 8) (.const (.int .i64 1))))
            (.seq
             (.set 15 (.bin .quo (.var 1) (.var 14)))
            (.seq
             (.seq
              (.chk [(.idxStr (.const (.string ⟨#[48, 49, 50, 51, 52, 53, 54, 55, 56, 57, 97, 98, 99, 100, 101, 102, 103, 104, 105, 106, 107, 108, 109, 110, 111, 112, 113, 114, 115, 116, 117, 118, 119, 120, 121, 122]⟩)) (.bin .sub (.var 1) (.bin .mul (.var 15) (.var 14))))])
             (.store 1 (.ixArr 65 1 (.var 7) (.var 8)) (.idxStr (.const (.string ⟨#[48, 49, 50, 51, 52, 53, 54, 55, 56, 57, 97, 98, 99, 100, 101, 102, 103, 104, 105, 106, 107, 108, 109, 110, 111, 112, 113, 114, 115, 116, 117, 118, 119, 120, 121, 122]⟩)) (.bin .sub (.var 1) (.bin .mul (.var 15) (.var 14)))) []))
            (.set 1 (.var 15)))))))))
     (.seq
      (.set 8 (.bin .sub (.var 8) (.const (.int .i64 1))))
     (.seq
      (.chk [(.idxStr (.const (.string ⟨#[48, 49, 50, 51, 52, 53, 54, 55, 56, 57, 97, 98, 99, 100, 101, 102, 103, 104, 105, 106, 107, 108, 109, 110, 111, 112, 113, 114, 115, 116, 117, 118, 119, 120, 121, 122]⟩)) (.var 1))])
     (.store 1 (.ixArr 65 1 (.var 7) (.var 8)) (.idxStr (.const (.string ⟨#[48, 49, 50, 51, 52, 53, 54, 55, 56, 57, 97, 98, 99, 100, 101, 102, 103, 104, 105, 106, 107, 108, 109, 110, 111, 112, 113, 114, 115, 116, 117, 118, 119, 120, 121, 122]⟩)) (.var 1)) [])))))))
  (.seq
   (.cond (.var 3)
     (.seq
      (.set 8 (.bin .sub (.var 8) (.const (.int .i64 1))))
     (.store 1 (.ixArr 65 1 (.var 7) (.var 8)) (.const (.int .u8 45)) []))
     .skip)
  (.seq
   (.cond (.var 4)
     (.seq
      (.seq
       (.bi (some 16) .append [44, 44] 44 [(.var 0), (.slArr 65 1 (.var 7) (.var 8) (.const (.int .i64 65)))] [])
      (.set 5 (.var 16)))
     .ret)
     .skip)
  (.seq
   (.set 6 (.bstr (.slArr 65 1 (.var 7) (.var 8) (.const (.int .i64 65)))))
  .ret)))))))))
abbrev v_internal_strconv_formatBits : List Nat := [0, 1, 2, 3, 4, 10, 11, 12, 13, 34, 37, 14, 15, 16, 17, 18, 98]
abbrev k_internal_strconv_formatBits : List (List Nat) := [[0, 1, 3, 4, 5, 6, 7, 8, 11, 12, 13], [0, 1, 3, 4, 5, 6, 7, 8, 14]]
abbrev r_internal_strconv_formatBits : List Ex := [(.var 5), (.var 6)]
theorem ok_internal_strconv_formatBits : compile Tryz.prog Tryz.f91 v_internal_strconv_formatBits k_internal_strconv_formatBits = some (c_internal_strconv_formatBits, r_internal_strconv_formatBits) := by kernel_rfl

/- internal/strconv.ParseUint -/
def c_internal_strconv_ParseUint : Cmd :=
  (.seq
   (.seq
    (.set 3 (.const (.int .u64 0)))
   (.set 4 (.const .nilIface)))
  (.seq
   (.seq
    (.chk [(.bin .eql (.var 0) (.const (.string ⟨#[]⟩)))])
   (.cond (.bin .eql (.var 0) (.const (.string ⟨#[]⟩)))
     (.seq
      (.seq
       (.chk [(.mkif 150 (.const (.int .i64 2)))])
      (.seq
       (.set 3 (.const (.int .u64 0)))
      (.set 4 (.mkif 150 (.const (.int .i64 2))))))
     .ret)
     .skip))
  (.seq
   (.set 5 (.bin .eql (.var 1) (.const (.int .i64 0))))
  (.seq
   (.set 6 (.var 0))
  (.seq
   (.block 0
     (.seq
      (.set 7 (.pick (.bin .leq (.const (.int .i64 2)) (.var 1)) (.bin .leq (.var 1) (.const (.int .i64 36))) (.const (.bool false))))
     (.cond (.var 7)
       .skip
       (.seq
        (.set 8 (.bin .eql (.var 1) (.const (.int .i64 0))))
       (.cond (.var 8)
         (.seq
          (.set 1 (.const (.int .i64 10)))
         (.cond (.bin .eql (.idxStr (.var 0) (.const (.int .i64 0))) (.const (.int .u8 48)))
           (.block 1
             (.seq
              (.seq
               (.chk [(.pick (.bin .geq (.len true (.var 0)) (.const (.int .i64 3))) (.idxStr (.var 0) (.const (.int .i64 1))) (.const (.bool false)))])
              (.seq
               (.cond (.pick (.bin .geq (.len true (.var 0)) (.const (.int .i64 3))) (.const (.bool true)) (.const (.bool false)))
                 (.call (some 9) 122 [(.idxStr (.var 0) (.const (.int .i64 1)))] [])
                 (.clr [9]))
              (.set 10 (.pick (.bin .geq (.len true (.var 0)) (.const (.int .i64 3))) (.bin .eql (.var 9) (.const (.int .u8 98))) (.const (.bool false))))))
             (.cond (.var 10)
               (.seq
                (.set 1 (.const (.int .i64 2)))
               (.set 0 (.slStr (.var 0) (.const (.int .i64 2)) (.len true (.var 0)))))
               (.seq
                (.seq
                 (.chk [(.pick (.bin .geq (.len true (.var 0)) (.const (.int .i64 3))) (.idxStr (.var 0) (.const (.int .i64 1))) (.const (.bool false)))])
                (.seq
                 (.cond (.pick (.bin .geq (.len true (.var 0)) (.const (.int .i64 3))) (.const (.bool true)) (.const (.bool false)))
                   (.call (some 11) 122 [(.idxStr (.var 0) (.const (.int .i64 1)))] [])
                   (.clr [11]))
                (.set 12 (.pick (.bin .geq (.len true (.var 0)) (.const (.int .i64 3))) (.bin .eql (.var 11) (.const (.int .u8 111))) (.const (.bool false))))))
               (.cond (.var 12)
                 (.seq
                  (.set 1 (.const (.int .i64 8)))
                 (.set 0 (.slStr (.var 0) (.const (.int .i64 2)) (.len true (.var 0)))))
                 (.seq
                  (.seq
                   (.chk [(.pick (.bin .geq (.len true (.var 0)) (.const (.int .i64 3))) (.idxStr (.var 0) (.const (.int .i64 1))) (.const (.bool false)))])
                  (.seq
                   (.cond (.pick (.bin .geq (.len true (.var 0)) (.const (.int .i64 3))) (.const (.bool true)) (.const (.bool false)))
                     (.call (some 13) 122 [(.idxStr (.var 0) (.const (.int .i64 1)))] [])
                     (.clr [13]))
                  (.set 14 (.pick (.bin .geq (.len true (.var 0)) (.const (.int .i64 3))) (.bin .eql (.var 13) (.const (.int .u8 120))) (.const (.bool false))))))
                 (.cond (.var 14)
                   (.seq
                    (.set 1 (.const (.int .i64 16)))
                   (.set 0 (.slStr (.var 0) (.const (.int .i64 2)) (.len true (.var 0)))))
                   (.seq
                    (.set 1 (.const (.int .i64 8)))
                   (.set 0 (.slStr (.var 0) (.const (.int .i64 1)) (.len true (.var 0))))))))))))
           .skip))
         (.seq
          (.seq
           (.chk [(.mkif 150 (.const (.int .i64 3)))])
          (.seq
           (.set 3 (.const (.int .u64 0)))
          (.set 4 (.mkif 150 (.const (.int .i64 3))))))
         .ret))))))
  (.seq
   (.cond (.bin .eql (.var 2) (.const (.int .i64 0)))
     (.set 2 (.const (.int .i64 64)))
     (.cond (.pick (.bin .lss (.var 2) (.const (.int .i64 0))) (.const (.bool true)) (.bin .gtr (.var 2) (.const (.int .i64 64))))
       (.seq
        (.seq
         (.chk [(.mkif 150 (.const (.int .i64 4)))])
        (.seq
         (.set 3 (.const (.int .u64 0)))
        (.set 4 (.mkif 150 (.const (.int .i64 4))))))
       .ret)
       .skip))
  (.seq
   (.set 15 (.const (.int .u64 0)))
  (.seq
   (.seq
    (.set 16 (.var 1))
   (.block 2
     (.seq
      (.set 17 (.bin .eql (.var 16) (.const (.int .i64 10))))
     (.cond (.var 17)
       (.set 15 (.const (.int .u64 1844674407370955162)))
       (.seq
        (.set 18 (.bin .eql (.var 16) (.const (.int .i64 16))))
       (.cond (.var 18)
         (.set 15 (.const (.int .u64 1152921504606846976)))
         (.set 15 (.bin .add (.bin .quo (.const (.int .u64 18446744073709551615)) (.conv .u64 (.var 1))) (.const (.int .u64 1))))))))))
  (.seq
   (.set 19 (.bin .sub (.bin .shl (.const (.int .u64 1)) (.conv .u64 (.var 2))) (.const (.int .u64 1))))
  (.seq
   (.set 20 (.const (.bool false)))
  (.seq
   (.set 21 (.const (.int .u64 0)))
  (.seq
   (.seq
    (.seq
     (.sem (some 22) (.cv 9 44) [(.var 0)] [])
    (.seq
     (.set 24 (.len false (.var 22)))
    (.set 23 (.const (.int .i64 0)))))
   (.block 3
     (.loop [1, 5, 6, 15, 19, 20, 21, 22, 23, 24]
       (.seq
        (.cond (.bin .lss (.var 23) (.var 24))
          .skip
          (.exit 3))
       (.seq
        (.block 4
          (.seq
           (.set 25 (.ld none (.ixSl 1 (.var 22) (.var 23))))
          (.seq
           (.set 26 (.const (.int .u8 0)))
          (.seq
           (.block 5
             (.seq
              (.set 27 (.pick (.bin .eql (.var 25) (.const (.int .u8 95))) (.var 5) (.const (.bool false))))
             (.cond (.var 27)
               (.seq
                (.set 20 (.const (.bool true)))
               (.exit 4))
               (.seq
                (.set 28 (.pick (.bin .leq (.const (.int .u8 48)) (.var 25)) (.bin .leq (.var 25) (.const (.int .u8 57))) (.const (.bool false))))
               (.cond (.var 28)
                 (.set 26 (.bin .sub (.var 25) (.const (.int .u8 48))))
                 (.seq
                  (.seq
                   (.call (some 29) 122 [(.var 25)] [])
                  (.seq
                   (.chk [(.pick (.bin .leq (.const (.int .u8 97)) (.var 29)) (.var 25) (.const (.bool false)))])
                  (.seq
                   (.cond (.pick (.bin .leq (.const (.int .u8 97)) (.var 29)) (.const (.bool true)) (.const (.bool false)))
                     (.call (some 30) 122 [(.var 25)] [])
                     (.clr [30]))
                  (.set 31 (.pick (.bin .leq (.const (.int .u8 97)) (.var 29)) (.bin .leq (.var 30) (.const (.int .u8 122))) (.const (.bool false)))))))
                 (.cond (.var 31)
                   (.seq
                    (.call (some 32) 122 [(.var 25)] [])
                   (.set 26 (.bin .add (.bin .sub (.var 32) (.const (.int .u8 97))) (.const (.int .u8 10)))))
                   (.seq
                    (.seq
                     (.chk [(.mkif 150 (.const (.int .i64 2)))])
                    (.seq
                     (.set 3 (.const (.int .u64 0)))
                    (.set 4 (.mkif 150 (.const (.int .i64 2))))))
                   .ret))))))))
          (.seq
           (.cond (.bin .geq (.var 26) (.conv .u8 (.var 1)))
             (.seq
              (.seq
               (.chk [(.mkif 150 (.const (.int .i64 2)))])
              (.seq
               (.set 3 (.const (.int .u64 0)))
              (.set 4 (.mkif 150 (.const (.int .i64 2))))))
             .ret)
             .skip)
          (.seq
           (.cond (.bin .geq (.var 21) (.var 15))
             (.seq
              (.seq
               (.chk [(.mkif 150 (.const (.int .i64 1)))])
              (.seq
               (.set 3 (.var 19))
              (.set 4 (.mkif 150 (.const (.int .i64 1))))))
             .ret)
             .skip)
          (.seq
           (.set 21 (.bin .mul (.var 21) (.conv .u64 (.var 1))))
          (.seq
           (.set 33 (.bin .add (.var 21) (.conv .u64 (.var 26))))
          (.seq
           (.cond (.pick (.bin .lss (.var 33) (.var 21)) (.const (.bool true)) (.bin .gtr (.var 33) (.var 19)))
             (.seq
              (.seq
               (.chk [(.mkif 150 (.const (.int .i64 1)))])
              (.seq
               (.set 3 (.var 19))
              (.set 4 (.mkif 150 (.const (.int .i64 1))))))
             .ret)
             .skip)
          (.set 21 (.var 33)))))))))))
       (.set 23 (.bin .add (.var 23) (.const (.int .i64 1)))))))))
  (.seq
   (.seq
    (.seq
     (.chk [(.pick (.var 20) (.var 6) (.const (.bool false)))])
    (.cond (.pick (.var 20) (.const (.bool true)) (.const (.bool false)))
      (.call (some 34) 123 [(.var 6)] [])
      (.clr [34])))
   (.cond (.pick (.var 20) (.un .not (.var 34)) (.const (.bool false)))
     (.seq
      (.seq
       (.chk [(.mkif 150 (.const (.int .i64 2)))])
      (.seq
       (.set 3 (.const (.int .u64 0)))
      (.set 4 (.mkif 150 (.const (.int .i64 2))))))
     .ret)
     .skip))
  (.seq
   (.seq
    (.set 3 (.var 21))
   (.set 4 (.const .nilIface)))
  .ret))))))))))))))
abbrev v_internal_strconv_ParseUint : List Nat := [0, 1, 2, 6, 7, 8, 9, 25, 32, 47, 40, 59, 52, 71, 64, 10, 85, 90, 92, 11, 12, 13, 99, 101, 100, 15, 16, 106, 112, 123, 127, 121, 131, 17, 167]
abbrev k_internal_strconv_ParseUint : List (List Nat) := [[1, 5, 6, 15, 19, 20, 21, 22, 23, 24]]
abbrev r_internal_strconv_ParseUint : List Ex := [(.var 3), (.var 4)]
theorem ok_internal_strconv_ParseUint : compile Tryz.prog Tryz.f100 v_internal_strconv_ParseUint k_internal_strconv_ParseUint = some (c_internal_strconv_ParseUint, r_internal_strconv_ParseUint) := by kernel_rfl

/- internal/strconv.lower -/
def c_internal_strconv_lower : Cmd :=
  (.seq
   (.set 1 (.const (.int .u8 0)))
  (.seq
   (.set 1 (.bin .or (.var 0) (.const (.int .u8 32))))
  .ret))
abbrev v_internal_strconv_lower : List Nat := [0, 2]
abbrev k_internal_strconv_lower : List (List Nat) := []
abbrev r_internal_strconv_lower : List Ex := [(.var 1)]
theorem ok_internal_strconv_lower : compile Tryz.prog Tryz.f122 v_internal_strconv_lower k_internal_strconv_lower = some (c_internal_strconv_lower, r_internal_strconv_lower) := by kernel_rfl

/- strings.CutSuffix -/
def c_strings_CutSuffix : Cmd :=
  (.seq
   (.seq
    (.set 2 (.const (.string ⟨#[]⟩)))
   (.set 3 (.const (.bool false))))
  (.seq
   (.seq
    (.call (some 4) 81 [(.var 0), (.var 1)] [])
   (.seq
    (.chk [(.proj 1 (.var 4))])
   (.seq
    (.set 2 (.proj 0 (.var 4)))
   (.set 3 (.proj 1 (.var 4))))))
  .ret))
abbrev v_strings_CutSuffix : List Nat := [0, 1, 4, 5, 8]
abbrev k_strings_CutSuffix : List (List Nat) := []
abbrev r_strings_CutSuffix : List Ex := [(.var 2), (.var 3)]
theorem ok_strings_CutSuffix : compile Tryz.prog Tryz.f54 v_strings_CutSuffix k_strings_CutSuffix = some (c_strings_CutSuffix, r_strings_CutSuffix) := by kernel_rfl

/- strings.CutPrefix -/
def c_strings_CutPrefix : Cmd :=
  (.seq
   (.seq
    (.set 2 (.const (.string ⟨#[]⟩)))
   (.set 3 (.const (.bool false))))
  (.seq
   (.seq
    (.call (some 4) 121 [(.var 0), (.var 1)] [])
   (.seq
    (.chk [(.proj 1 (.var 4))])
   (.seq
    (.set 2 (.proj 0 (.var 4)))
   (.set 3 (.proj 1 (.var 4))))))
  .ret))
abbrev v_strings_CutPrefix : List Nat := [0, 1, 4, 5, 8]
abbrev k_strings_CutPrefix : List (List Nat) := []
abbrev r_strings_CutPrefix : List Ex := [(.var 2), (.var 3)]
theorem ok_strings_CutPrefix : compile Tryz.prog Tryz.f99 v_strings_CutPrefix k_strings_CutPrefix = some (c_strings_CutPrefix, r_strings_CutPrefix) := by kernel_rfl

/- strings.HasPrefix -/
def c_strings_HasPrefix : Cmd :=
  (.seq
   (.set 2 (.const (.bool false)))
  (.seq
   (.seq
    (.call (some 3) 124 [(.var 0), (.var 1)] [])
   (.set 2 (.var 3)))
  .ret))
abbrev v_strings_HasPrefix : List Nat := [0, 1, 4, 7]
abbrev k_strings_HasPrefix : List (List Nat) := []
abbrev r_strings_HasPrefix : List Ex := [(.var 2)]
theorem ok_strings_HasPrefix : compile Tryz.prog Tryz.f102 v_strings_HasPrefix k_strings_HasPrefix = some (c_strings_HasPrefix, r_strings_HasPrefix) := by kernel_rfl

/- internal/stringslite.CutSuffix -/
def c_internal_stringslite_CutSuffix : Cmd :=
  (.seq
   (.seq
    (.set 2 (.const (.string ⟨#[]⟩)))
   (.set 3 (.const (.bool false))))
  (.seq
   (.seq
    (.call (some 4) 101 [(.var 0), (.var 1)] [])
   (.cond (.un .not (.var 4))
     (.seq
      (.seq
       (.set 2 (.var 0))
      (.set 3 (.const (.bool false))))
     .ret)
     .skip))
  (.seq
   (.seq
    (.set 2 (.slStr (.var 0) (.const (.int .i64 0)) (.bin .sub (.len true (.var 0)) (.len true (.var 1)))))
   (.set 3 (.const (.bool true))))
  .ret)))
abbrev v_internal_stringslite_CutSuffix : List Nat := [0, 1, 4, 5, 8]
abbrev k_internal_stringslite_CutSuffix : List (List Nat) := []
abbrev r_internal_stringslite_CutSuffix : List Ex := [(.var 2), (.var 3)]
theorem ok_internal_stringslite_CutSuffix : compile Tryz.prog Tryz.f81 v_internal_stringslite_CutSuffix k_internal_stringslite_CutSuffix = some (c_internal_stringslite_CutSuffix, r_internal_stringslite_CutSuffix) := by kernel_rfl

/- internal/stringslite.CutPrefix -/
def c_internal_stringslite_CutPrefix : Cmd :=
  (.seq
   (.seq
    (.set 2 (.const (.string ⟨#[]⟩)))
   (.set 3 (.const (.bool false))))
  (.seq
   (.seq
    (.call (some 4) 124 [(.var 0), (.var 1)] [])
   (.cond (.un .not (.var 4))
     (.seq
      (.seq
       (.set 2 (.var 0))
      (.set 3 (.const (.bool false))))
     .ret)
     .skip))
  (.seq
   (.seq
    (.set 2 (.slStr (.var 0) (.len true (.var 1)) (.len true (.var 0))))
   (.set 3 (.const (.bool true))))
  .ret)))
abbrev v_internal_stringslite_CutPrefix : List Nat := [0, 1, 4, 5, 8]
abbrev k_internal_stringslite_CutPrefix : List (List Nat) := []
abbrev r_internal_stringslite_CutPrefix : List Ex := [(.var 2), (.var 3)]
theorem ok_internal_stringslite_CutPrefix : compile Tryz.prog Tryz.f121 v_internal_stringslite_CutPrefix k_internal_stringslite_CutPrefix = some (c_internal_stringslite_CutPrefix, r_internal_stringslite_CutPrefix) := by kernel_rfl

/- internal/stringslite.HasSuffix -/
def c_internal_stringslite_HasSuffix : Cmd :=
  (.seq
   (.set 2 (.const (.bool false)))
  (.seq
   (.set 2 (.pick (.bin .geq (.len true (.var 0)) (.len true (.var 1))) (.bin .eql (.slStr (.var 0) (.bin .sub (.len true (.var 0)) (.len true (.var 1))) (.len true (.var 0))) (.var 1)) (.const (.bool false))))
  .ret))
abbrev v_internal_stringslite_HasSuffix : List Nat := [0, 1, 4]
abbrev k_internal_stringslite_HasSuffix : List (List Nat) := []
abbrev r_internal_stringslite_HasSuffix : List Ex := [(.var 2)]
theorem ok_internal_stringslite_HasSuffix : compile Tryz.prog Tryz.f101 v_internal_stringslite_HasSuffix k_internal_stringslite_HasSuffix = some (c_internal_stringslite_HasSuffix, r_internal_stringslite_HasSuffix) := by kernel_rfl

/- internal/stringslite.HasPrefix -/
def c_internal_stringslite_HasPrefix : Cmd :=
  (.seq
   (.set 2 (.const (.bool false)))
  (.seq
   (.set 2 (.pick (.bin .geq (.len true (.var 0)) (.len true (.var 1))) (.bin .eql (.slStr (.var 0) (.const (.int .i64 0)) (.len true (.var 1))) (.var 1)) (.const (.bool false))))
  .ret))
abbrev v_internal_stringslite_HasPrefix : List Nat := [0, 1, 4]
abbrev k_internal_stringslite_HasPrefix : List (List Nat) := []
abbrev r_internal_stringslite_HasPrefix : List Ex := [(.var 2)]
theorem ok_internal_stringslite_HasPrefix : compile Tryz.prog Tryz.f124 v_internal_stringslite_HasPrefix k_internal_stringslite_HasPrefix = some (c_internal_stringslite_HasPrefix, r_internal_stringslite_HasPrefix) := by kernel_rfl

/- tipstaff/shape.Check -/
def c_shape_Check : Cmd :=
  (.seq
   (.seq
    (.set 1 (.const (.int .i64 0)))
   (.set 2 (.const (.int .i64 0))))
  (.seq
   (.block 0
     (.seq
      (.set 3 (.bin .gtr (.len false (.var 0)) (.const (.int .i64 256))))
     (.cond (.var 3)
       (.seq
        (.seq
         (.set 1 (.const (.int .i64 0)))
        (.set 2 (.const (.int .i64 7))))
       .ret)
       (.seq
        (.set 4 (.bin .eql (.len false (.var 0)) (.const (.int .i64 0))))
       (.cond (.var 4)
         (.seq
          (.seq
           (.set 1 (.const (.int .i64 0)))
          (.set 2 (.const (.int .i64 22))))
         .ret)
         .skip)))))
  (.seq
   (.seq
    (.seq
     (.set 6 (.len false (.var 0)))
    (.set 5 (.const (.int .i64 0))))
   (.block 1
     (.loop [0, 5, 6]
       (.seq
        (.cond (.bin .lss (.var 5) (.var 6))
          .skip
          (.exit 1))
       (.seq
        (.block 2
          (.seq
           (.set 7 (.var 5))
          (.seq
           (.call (some 8) 83 [(.var 0), (.var 7)] [])
          (.cond (.un .not (.var 8))
            (.seq
             (.seq
              (.set 1 (.var 7))
             (.set 2 (.const (.int .i64 22))))
            .ret)
            .skip))))
       (.set 5 (.bin .add (.var 5) (.const (.int .i64 1)))))))))
  (.seq
   (.seq
    (.seq
     (.set 10 (.len false (.var 0)))
    (.set 9 (.const (.int .i64 0))))
   (.block 3
     (.loop [0, 9, 10]
       (.seq
        (.cond (.bin .lss (.var 9) (.var 10))
          .skip
          (.exit 3))
       (.seq
        (.block 4
          (.seq
           (.set 11 (.var 9))
          (.seq
           (.call (some 12) 84 [(.var 0), (.var 11)] [])
          (.cond (.un .not (.var 12))
            (.seq
             (.seq
              (.set 1 (.var 11))
             (.set 2 (.const (.int .i64 22))))
            .ret)
            .skip))))
       (.set 9 (.bin .add (.var 9) (.const (.int .i64 1)))))))))
  (.seq
   (.set 13 (.bin .sub (.len false (.var 0)) (.const (.int .i64 1))))
  (.seq
   (.seq
    (.seq
     (.call (some 14) 85 [(.ld (some 5) (.ixSl 5 (.var 0) (.var 13)))] [])
    (.set 15 (.var 14)))
   (.cond (.pick (.bin .neq (.var 15) (.const (.int .i64 5))) (.bin .neq (.var 15) (.const (.int .i64 3))) (.const (.bool false)))
     (.seq
      (.seq
       (.set 1 (.var 13))
      (.set 2 (.const (.int .i64 22))))
     .ret)
     .skip))
  (.seq
   (.seq
    (.set 1 (.const (.int .i64 0)))
   (.set 2 (.const (.int .i64 0))))
  .ret)))))))
abbrev v_shape_Check : List Nat := [0, 2, 3, 8, 12, 18, 17, 4, 23, 29, 28, 5, 34, 6, 45, 7]
abbrev k_shape_Check : List (List Nat) := [[0, 5, 6], [0, 9, 10]]
abbrev r_shape_Check : List Ex := [(.var 1), (.var 2)]
theorem ok_shape_Check : compile Tryz.prog Tryz.f61 v_shape_Check k_shape_Check = some (c_shape_Check, r_shape_Check) := by kernel_rfl

/- tipstaff/shape.one -/
def c_shape_one : Cmd :=
  (.seq
   (.set 2 (.const (.bool false)))
  (.seq
   (.seq
    (.set 4 (.ld (some 5) (.ixSl 5 (.var 0) (.var 1))))
   (.seq
    (.new (some 3) 39 (.const (.agg #[(.int .u8 0), (.int .u8 0), (.int .u8 0), (.int .i16 0), (.int .i32 0)])) [])
   (.store 5 (.var 3) (.var 4) [])))
  (.seq
   (.seq
    (.call (some 5) 38 [(.ld none (.offp 0 (.var 3)))] [])
   (.seq
    (.new (some 6) 80 (.const (.agg #[(.int .i64 0), (.int .i64 0), (.int .i64 0), (.bool false), (.bool false)])) [])
   (.store 5 (.var 6) (.var 5) [])))
  (.seq
   (.seq
    (.seq
     .draw
    (.seq
     (.set 9 (.bin .eql (.ld none (.offp 0 (.var 6))) (.const (.int .i64 0))))
    (.seq
     (.cond (.pick (.var 9) (.const (.bool false)) (.const (.bool true)))
       (.set 8 (.ld (some 5) (.var 3)))
       (.clr [8]))
    (.seq
     (.chk [(.pick (.var 9) (.const (.bool false)) (.ld (some 5) (.var 6)))])
    (.seq
     (.cond (.pick (.var 9) (.const (.bool false)) (.const (.bool true)))
       (.call (some 7) 104 [(.ld (some 5) (.var 6))] [(.ld (some 5) (.var 3))])
       (.clr [7]))
    (.seq
     (.cond (.pick (.var 9) (.const (.bool false)) (.const (.bool true)))
       (.call (some 10) 103 [(.var 8), (.var 7)] [])
       (.clr [10]))
    (.seq
     (.set 12 (.pick (.var 9) (.const (.bool true)) (.un .not (.var 10))))
    (.seq
     (.chk [(.pick (.var 12) (.const (.bool false)) (.ld none (.offp 0 (.var 6))))])
    (.cond (.pick (.var 12) (.const (.bool false)) (.const (.bool true)))
      (.call (some 11) 105 [(.ld none (.offp 0 (.var 6)))] [])
      (.clr [11]))))))))))
   (.cond (.pick (.var 12) (.const (.bool true)) (.pick (.var 11) (.bin .eql (.ld none (.offp 1 (.var 3))) (.const (.int .u8 10))) (.const (.bool false))))
     (.seq
      (.set 2 (.const (.bool false)))
     .ret)
     .skip))
  (.seq
   (.seq
    (.set 13 (.ld none (.offp 0 (.var 6))))
   (.block 0
     (.seq
      (.set 14 (.bin .eql (.var 13) (.const (.int .i64 1))))
     (.cond (.var 14)
       (.seq
        (.seq
         (.call (some 15) 106 [(.ld (some 5) (.var 6)), (.ld none (.offp 4 (.var 3)))] [])
        (.set 2 (.var 15)))
       .ret)
       (.seq
        (.set 16 (.bin .eql (.var 13) (.const (.int .i64 4))))
       (.cond (.var 16)
         (.seq
          (.seq
           (.call (some 17) 107 [(.ld none (.offp 4 (.var 3)))] [])
          (.seq
           (.chk [(.proj 1 (.var 17))])
          (.seq
           (.set 18 (.proj 0 (.var 17)))
          (.set 19 (.proj 1 (.var 17))))))
         (.seq
          (.set 2 (.var 19))
         .ret))
         (.seq
          (.set 20 (.bin .eql (.var 13) (.const (.int .i64 8))))
         (.cond (.var 20)
           (.seq
            (.seq
             (.call (some 21) 108 [(.ld none (.offp 4 (.var 3)))] [])
            (.set 2 (.var 21)))
           .ret)
           (.seq
            (.set 22 (.bin .eql (.var 13) (.const (.int .i64 9))))
           (.cond (.var 22)
             (.seq
              (.seq
               (.call (some 23) 109 [(.var 0), (.var 1)] [])
              (.set 2 (.var 23)))
             .ret)
             (.seq
              (.set 24 (.bin .eql (.var 13) (.const (.int .i64 10))))
             (.cond (.var 24)
               (.seq
                (.seq
                 (.chk [(.pick (.bin .gtr (.var 1) (.const (.int .i64 0))) (.ld (some 5) (.ixSl 5 (.var 0) (.bin .sub (.var 1) (.const (.int .i64 1))))) (.const (.bool false)))])
                (.seq
                 (.cond (.pick (.bin .gtr (.var 1) (.const (.int .i64 0))) (.const (.bool true)) (.const (.bool false)))
                   (.call (some 25) 85 [(.ld (some 5) (.ixSl 5 (.var 0) (.bin .sub (.var 1) (.const (.int .i64 1)))))] [])
                   (.clr [25]))
                (.set 2 (.pick (.bin .gtr (.var 1) (.const (.int .i64 0))) (.bin .eql (.var 25) (.const (.int .i64 9))) (.const (.bool false))))))
               .ret)
               .skip))))))))))))
  (.seq
   (.set 2 (.const (.bool true)))
  .ret))))))
abbrev v_shape_one : List Nat := [0, 1, 4, 5, 12, 15, 6, 22, 20, 19, 23, 29, 26, 37, 38, 43, 44, 49, 7, 8, 53, 57, 58, 62, 63, 73]
abbrev k_shape_one : List (List Nat) := []
abbrev r_shape_one : List Ex := [(.var 2)]
theorem ok_shape_one : compile Tryz.prog Tryz.f83 v_shape_one k_shape_one = some (c_shape_one, r_shape_one) := by kernel_rfl

/- tipstaff/shape.lands -/
def c_shape_lands : Cmd :=
  (.seq
   (.set 2 (.const (.bool false)))
  (.seq
   (.seq
    (.seq
     (.call (some 3) 85 [(.ld (some 5) (.ixSl 5 (.var 0) (.var 1)))] [])
    (.set 4 (.var 3)))
   (.cond (.pick (.bin .neq (.var 4) (.const (.int .i64 2))) (.bin .neq (.var 4) (.const (.int .i64 3))) (.const (.bool false)))
     (.seq
      (.set 2 (.const (.bool true)))
     .ret)
     .skip))
  (.seq
   (.seq
    (.call (some 5) 110 [(.var 1), (.ld (some 5) (.ixSl 5 (.var 0) (.var 1)))] [])
   (.set 6 (.var 5)))
  (.seq
   (.seq
    (.chk [(.pick (.pick (.bin .geq (.var 6) (.const (.int .i64 0))) (.bin .lss (.var 6) (.len false (.var 0))) (.const (.bool false))) (.ld (some 5) (.ixSl 5 (.var 0) (.var 6))) (.const (.bool false)))])
   (.seq
    (.cond (.pick (.pick (.bin .geq (.var 6) (.const (.int .i64 0))) (.bin .lss (.var 6) (.len false (.var 0))) (.const (.bool false))) (.const (.bool true)) (.const (.bool false)))
      (.call (some 7) 85 [(.ld (some 5) (.ixSl 5 (.var 0) (.var 6)))] [])
      (.clr [7]))
   (.set 2 (.pick (.pick (.bin .geq (.var 6) (.const (.int .i64 0))) (.bin .lss (.var 6) (.len false (.var 0))) (.const (.bool false))) (.bin .neq (.var 7) (.const (.int .i64 10))) (.const (.bool false))))))
  .ret))))
abbrev v_shape_lands : List Nat := [0, 1, 4, 11, 5, 23, 6, 37]
abbrev k_shape_lands : List (List Nat) := []
abbrev r_shape_lands : List Ex := [(.var 2)]
theorem ok_shape_lands : compile Tryz.prog Tryz.f84 v_shape_lands k_shape_lands = some (c_shape_lands, r_shape_lands) := by kernel_rfl

/- tipstaff/shape.kind -/
def c_shape_kind : Cmd :=
  (.seq
   (.seq
    (.new (some 2) 39 (.var 0) [])
   (.set 1 (.const (.int .i64 0))))
  (.seq
   (.seq
    (.call (some 3) 38 [(.ld none (.offp 0 (.var 2)))] [])
   (.set 1 (.part none 0 (.var 3))))
  .ret))
abbrev v_shape_kind : List Nat := [0, 2, 1, 5]
abbrev k_shape_kind : List (List Nat) := []
abbrev r_shape_kind : List Ex := [(.var 1)]
theorem ok_shape_kind : compile Tryz.prog Tryz.f85 v_shape_kind k_shape_kind = some (c_shape_kind, r_shape_kind) := by kernel_rfl

/- tipstaff/shape.plain -/
def c_shape_plain : Cmd :=
  (.seq
   (.seq
    (.new (some 3) 39 (.var 0) [])
   (.seq
    (.new (some 4) 138 (.var 1) [])
   (.set 2 (.const (.bool false)))))
  (.seq
   (.block 0
     (.seq
      (.set 5 (.pick (.bin .geq (.ld none (.offp 1 (.var 3))) (.const (.int .u8 11))) (.const (.bool true)) (.bin .geq (.ld none (.offp 2 (.var 3))) (.const (.int .u8 11)))))
     (.cond (.var 5)
       .skip
       (.seq
        (.set 6 (.pick (.pick (.un .not (.ld none (.offp 0 (.var 4)))) (.bin .neq (.ld none (.offp 1 (.var 3))) (.const (.int .u8 0))) (.const (.bool false))) (.const (.bool true)) (.pick (.un .not (.ld none (.offp 1 (.var 4)))) (.bin .neq (.ld none (.offp 2 (.var 3))) (.const (.int .u8 0))) (.const (.bool false)))))
       (.cond (.var 6)
         .skip
         (.seq
          (.set 7 (.pick (.pick (.un .not (.ld none (.offp 2 (.var 4)))) (.bin .neq (.ld none (.offp 3 (.var 3))) (.const (.int .i16 0))) (.const (.bool false))) (.const (.bool true)) (.pick (.un .not (.ld none (.offp 3 (.var 4)))) (.bin .neq (.ld none (.offp 4 (.var 3))) (.const (.int .i32 0))) (.const (.bool false)))))
         (.cond (.var 7)
           .skip
           (.seq
            (.set 2 (.const (.bool true)))
           .ret))))))))
  (.seq
   (.set 2 (.const (.bool false)))
  .ret)))
abbrev v_shape_plain : List Nat := [0, 1, 4, 2, 3, 5, 14, 33]
abbrev k_shape_plain : List (List Nat) := []
abbrev r_shape_plain : List Ex := [(.var 2)]
theorem ok_shape_plain : compile Tryz.prog Tryz.f103 v_shape_plain k_shape_plain = some (c_shape_plain, r_shape_plain) := by kernel_rfl

/- tipstaff/shape.named -/
def c_shape_named : Cmd :=
  (.seq
   (.seq
    (.new (some 2) 80 (.var 0) [])
   (.new (some 1) 138 (.const (.agg (Array.replicate 4 (.bool false)))) []))
  (.seq
   (.seq
    (.set 3 (.ld none (.offp 0 (.var 2))))
   (.block 0
     (.seq
      (.set 4 (.bin .eql (.var 3) (.const (.int .i64 1))))
     (.cond (.var 4)
       (.seq
        (.seq
         (.chk [(.upd 3 1 (.upd 2 1 (.upd 1 1 (.upd 0 1 (.const (.agg (Array.replicate 4 (.bool false)))) (.const (.bool true))) (.ld none (.offp 4 (.var 2)))) (.const (.bool false))) (.pick (.un .not (.ld none (.offp 4 (.var 2)))) (.bin .neq (.ld none (.offp 1 (.var 2))) (.const (.int .i64 8))) (.const (.bool false))))])
        (.store 4 (.var 1) (.upd 3 1 (.upd 2 1 (.upd 1 1 (.upd 0 1 (.const (.agg (Array.replicate 4 (.bool false)))) (.const (.bool true))) (.ld none (.offp 4 (.var 2)))) (.const (.bool false))) (.pick (.un .not (.ld none (.offp 4 (.var 2)))) (.bin .neq (.ld none (.offp 1 (.var 2))) (.const (.int .i64 8))) (.const (.bool false)))) []))
       .ret)
       (.seq
        (.seq
         (.set 5 (.bin .eql (.var 3) (.const (.int .i64 2))))
        (.cond (.var 5)
          .skip
          (.set 5 (.bin .eql (.var 3) (.const (.int .i64 7))))))
       (.cond (.var 5)
         (.seq
          (.seq
           (.chk [(.upd 3 1 (.upd 2 1 (.upd 1 1 (.upd 0 1 (.const (.agg (Array.replicate 4 (.bool false)))) (.const (.bool true))) (.ld none (.offp 4 (.var 2)))) (.const (.bool true))) (.un .not (.ld none (.offp 4 (.var 2)))))])
          (.store 4 (.var 1) (.upd 3 1 (.upd 2 1 (.upd 1 1 (.upd 0 1 (.const (.agg (Array.replicate 4 (.bool false)))) (.const (.bool true))) (.ld none (.offp 4 (.var 2)))) (.const (.bool true))) (.un .not (.ld none (.offp 4 (.var 2))))) []))
         .ret)
         (.seq
          (.set 6 (.bin .eql (.var 3) (.const (.int .i64 3))))
         (.cond (.var 6)
           (.seq
            (.seq
             (.chk [(.upd 2 1 (.const (.agg (Array.replicate 4 (.bool false)))) (.const (.bool true)))])
            (.store 4 (.var 1) (.upd 2 1 (.const (.agg (Array.replicate 4 (.bool false)))) (.const (.bool true))) []))
           .ret)
           (.seq
            (.seq
             (.set 7 (.bin .eql (.var 3) (.const (.int .i64 4))))
            (.cond (.var 7)
              .skip
              (.set 7 (.bin .eql (.var 3) (.const (.int .i64 10))))))
           (.cond (.var 7)
             (.seq
              (.seq
               (.chk [(.upd 3 1 (.const (.agg (Array.replicate 4 (.bool false)))) (.const (.bool true)))])
              (.store 4 (.var 1) (.upd 3 1 (.const (.agg (Array.replicate 4 (.bool false)))) (.const (.bool true))) []))
             .ret)
             (.seq
              (.set 8 (.bin .eql (.var 3) (.const (.int .i64 6))))
             (.cond (.var 8)
               (.seq
                (.seq
                 (.chk [(.upd 3 1 (.upd 2 1 (.upd 1 1 (.upd 0 1 (.const (.agg (Array.replicate 4 (.bool false)))) (.const (.bool true))) (.const (.bool true))) (.const (.bool true))) (.const (.bool false)))])
                (.store 4 (.var 1) (.upd 3 1 (.upd 2 1 (.upd 1 1 (.upd 0 1 (.const (.agg (Array.replicate 4 (.bool false)))) (.const (.bool true))) (.const (.bool true))) (.const (.bool true))) (.const (.bool false))) []))
               .ret)
               (.seq
                (.set 9 (.bin .eql (.var 3) (.const (.int .i64 8))))
               (.cond (.var 9)
                 (.seq
                  (.seq
                   (.chk [(.upd 3 1 (.upd 2 1 (.upd 1 1 (.upd 0 1 (.const (.agg (Array.replicate 4 (.bool false)))) (.const (.bool true))) (.const (.bool true))) (.const (.bool true))) (.const (.bool true)))])
                  (.store 4 (.var 1) (.upd 3 1 (.upd 2 1 (.upd 1 1 (.upd 0 1 (.const (.agg (Array.replicate 4 (.bool false)))) (.const (.bool true))) (.const (.bool true))) (.const (.bool true))) (.const (.bool true))) []))
                 .ret)
                 (.seq
                  (.set 10 (.bin .eql (.var 3) (.const (.int .i64 9))))
                 (.cond (.var 10)
                   (.seq
                    (.seq
                     (.chk [(.upd 3 1 (.upd 2 1 (.upd 1 1 (.upd 0 1 (.const (.agg (Array.replicate 4 (.bool false)))) (.const (.bool true))) (.const (.bool true))) (.const (.bool false))) (.const (.bool true)))])
                    (.store 4 (.var 1) (.upd 3 1 (.upd 2 1 (.upd 1 1 (.upd 0 1 (.const (.agg (Array.replicate 4 (.bool false)))) (.const (.bool true))) (.const (.bool true))) (.const (.bool false))) (.const (.bool true))) []))
                   .ret)
                   .skip))))))))))))))))
  (.seq
   (.store 4 (.var 1) (.const (.agg (Array.replicate 4 (.bool false)))) [])
  .ret)))
abbrev v_shape_named : List Nat := [0, 2, 1, 4, 5, 18, 27, 30, 34, 37, 40]
abbrev k_shape_named : List (List Nat) := []
abbrev r_shape_named : List Ex := [(.ld (some 4) (.var 1))]
theorem ok_shape_named : compile Tryz.prog Tryz.f104 v_shape_named k_shape_named = some (c_shape_named, r_shape_named) := by kernel_rfl

/- tipstaff/shape.writes -/
def c_shape_writes : Cmd :=
  (.seq
   (.set 1 (.const (.bool false)))
  (.seq
   (.set 1 (.pick (.pick (.bin .eql (.var 0) (.const (.int .i64 1))) (.const (.bool true)) (.bin .eql (.var 0) (.const (.int .i64 6)))) (.const (.bool true)) (.bin .eql (.var 0) (.const (.int .i64 9)))))
  .ret))
abbrev v_shape_writes : List Nat := [0, 2]
abbrev k_shape_writes : List (List Nat) := []
abbrev r_shape_writes : List Ex := [(.var 1)]
theorem ok_shape_writes : compile Tryz.prog Tryz.f105 v_shape_writes k_shape_writes = some (c_shape_writes, r_shape_writes) := by kernel_rfl

/- tipstaff/shape.constant -/
def c_shape_constant : Cmd :=
  (.seq
   (.seq
    (.new (some 3) 80 (.var 0) [])
   (.set 2 (.const (.bool false))))
  (.seq
   (.cond (.ld none (.offp 4 (.var 3)))
     (.seq
      (.set 2 (.const (.bool true)))
     .ret)
     .skip)
  (.seq
   (.seq
    (.set 4 (.ld none (.offp 1 (.var 3))))
   (.block 0
     (.seq
      (.seq
       (.set 5 (.bin .eql (.var 4) (.const (.int .i64 3))))
      (.cond (.var 5)
        .skip
        (.set 5 (.bin .eql (.var 4) (.const (.int .i64 9))))))
     (.cond (.var 5)
       (.seq
        (.set 2 (.bin .neq (.var 1) (.const (.int .i32 0))))
       .ret)
       (.seq
        (.seq
         (.set 6 (.bin .eql (.var 4) (.const (.int .i64 6))))
        (.cond (.var 6)
          .skip
          (.seq
           (.set 6 (.bin .eql (.var 4) (.const (.int .i64 7))))
          (.cond (.var 6)
            .skip
            (.set 6 (.bin .eql (.var 4) (.const (.int .i64 12))))))))
       (.cond (.var 6)
         (.seq
          (.set 7 (.const (.int .i32 31)))
         (.seq
          (.cond (.ld none (.offp 3 (.var 3)))
            (.set 7 (.const (.int .i32 63)))
            .skip)
         (.seq
          (.set 2 (.pick (.bin .geq (.var 1) (.const (.int .i32 0))) (.bin .leq (.var 1) (.var 7)) (.const (.bool false))))
         .ret)))
         .skip))))))
  (.seq
   (.set 2 (.const (.bool true)))
  .ret))))
abbrev v_shape_constant : List Nat := [0, 1, 4, 2, 9, 10, 15, 5]
abbrev k_shape_constant : List (List Nat) := []
abbrev r_shape_constant : List Ex := [(.var 2)]
theorem ok_shape_constant : compile Tryz.prog Tryz.f106 v_shape_constant k_shape_constant = some (c_shape_constant, r_shape_constant) := by kernel_rfl

/- tipstaff/shape.Args -/
def c_shape_Args : Cmd :=
  (.seq
   (.seq
    (.set 1 (.const (.int .i64 0)))
   (.set 2 (.const (.bool false))))
  (.seq
   (.seq
    (.set 3 (.var 0))
   (.block 0
     (.seq
      (.seq
       (.set 4 (.bin .eql (.var 3) (.const (.int .i32 1))))
      (.cond (.var 4)
        .skip
        (.seq
         (.set 4 (.bin .eql (.var 3) (.const (.int .i32 3))))
        (.cond (.var 4)
          .skip
          (.seq
           (.set 4 (.bin .eql (.var 3) (.const (.int .i32 88))))
          (.cond (.var 4)
            .skip
            (.set 4 (.bin .eql (.var 3) (.const (.int .i32 89))))))))))
     (.cond (.var 4)
       (.seq
        (.seq
         (.set 1 (.const (.int .i64 2)))
        (.set 2 (.const (.bool true))))
       .ret)
       (.seq
        (.set 5 (.bin .eql (.var 3) (.const (.int .i32 2))))
       (.cond (.var 5)
         (.seq
          (.seq
           (.set 1 (.const (.int .i64 4)))
          (.set 2 (.const (.bool true))))
         .ret)
         (.seq
          (.seq
           (.set 6 (.bin .eql (.var 3) (.const (.int .i32 5))))
          (.cond (.var 6)
            .skip
            (.set 6 (.bin .eql (.var 3) (.const (.int .i32 7))))))
         (.cond (.var 6)
           (.seq
            (.seq
             (.set 1 (.const (.int .i64 0)))
            (.set 2 (.const (.bool true))))
           .ret)
           (.seq
            (.set 7 (.bin .eql (.var 3) (.const (.int .i32 87))))
           (.cond (.var 7)
             (.seq
              (.seq
               (.set 1 (.const (.int .i64 3)))
              (.set 2 (.const (.bool true))))
             .ret)
             .skip))))))))))
  (.seq
   (.seq
    (.set 1 (.const (.int .i64 0)))
   (.set 2 (.const (.bool false))))
  .ret)))
abbrev v_shape_Args : List Nat := [0, 2, 3, 4, 5, 10, 12, 15]
abbrev k_shape_Args : List (List Nat) := []
abbrev r_shape_Args : List Ex := [(.var 1), (.var 2)]
theorem ok_shape_Args : compile Tryz.prog Tryz.f107 v_shape_Args k_shape_Args = some (c_shape_Args, r_shape_Args) := by kernel_rfl

/- tipstaff/shape.atomic -/
def c_shape_atomic : Cmd :=
  (.seq
   (.set 1 (.const (.bool false)))
  (.seq
   (.set 1 (.pick (.pick (.pick (.bin .eql (.var 0) (.const (.int .i32 0))) (.const (.bool true)) (.bin .eql (.var 0) (.const (.int .i32 64)))) (.const (.bool true)) (.bin .eql (.var 0) (.const (.int .i32 80)))) (.const (.bool true)) (.bin .eql (.var 0) (.const (.int .i32 160)))))
  .ret))
abbrev v_shape_atomic : List Nat := [0, 2]
abbrev k_shape_atomic : List (List Nat) := []
abbrev r_shape_atomic : List Ex := [(.var 1)]
theorem ok_shape_atomic : compile Tryz.prog Tryz.f108 v_shape_atomic k_shape_atomic = some (c_shape_atomic, r_shape_atomic) := by kernel_rfl

/- tipstaff/shape.wide -/
def c_shape_wide : Cmd :=
  (.seq
   (.set 2 (.const (.bool false)))
  (.seq
   (.seq
    (.set 4 (.ld (some 5) (.ixSl 5 (.var 0) (.var 1))))
   (.seq
    (.new (some 3) 39 (.const (.agg #[(.int .u8 0), (.int .u8 0), (.int .u8 0), (.int .i16 0), (.int .i32 0)])) [])
   (.store 5 (.var 3) (.var 4) [])))
  (.seq
   (.seq
    (.seq
     (.chk [(.pick (.bin .geq (.bin .add (.var 1) (.const (.int .i64 1))) (.len false (.var 0))) (.const (.bool false)) (.ld (some 5) (.ixSl 5 (.var 0) (.bin .add (.var 1) (.const (.int .i64 1))))))])
    (.cond (.pick (.bin .geq (.bin .add (.var 1) (.const (.int .i64 1))) (.len false (.var 0))) (.const (.bool false)) (.const (.bool true)))
      (.call (some 5) 85 [(.ld (some 5) (.ixSl 5 (.var 0) (.bin .add (.var 1) (.const (.int .i64 1)))))] [])
      (.clr [5])))
   (.cond (.pick (.pick (.bin .geq (.bin .add (.var 1) (.const (.int .i64 1))) (.len false (.var 0))) (.const (.bool true)) (.bin .neq (.var 5) (.const (.int .i64 10)))) (.const (.bool true)) (.bin .gtr (.ld none (.offp 2 (.var 3))) (.const (.int .u8 1))))
     (.seq
      (.set 2 (.const (.bool false)))
     .ret)
     .skip))
  (.seq
   (.set 2 (.pick (.bin .eql (.ld none (.offp 2 (.var 3))) (.const (.int .u8 0))) (.const (.bool true)) (.pick (.pick (.bin .geq (.ld none (.offp 4 (.var 3))) (.const (.int .i32 0))) (.bin .lss (.ld none (.offp 4 (.var 3))) (.const (.int .i32 4))) (.const (.bool false))) (.bin .eql (.ld none (.offp 4 (.ixSl 5 (.var 0) (.bin .add (.var 1) (.const (.int .i64 1)))))) (.const (.int .i32 0))) (.const (.bool false)))))
  .ret))))
abbrev v_shape_wide : List Nat := [0, 1, 4, 5, 9, 21]
abbrev k_shape_wide : List (List Nat) := []
abbrev r_shape_wide : List Ex := [(.var 2)]
theorem ok_shape_wide : compile Tryz.prog Tryz.f109 v_shape_wide k_shape_wide = some (c_shape_wide, r_shape_wide) := by kernel_rfl

end Go.Proofs.YtpannhipchnhaaaGreatDoor
