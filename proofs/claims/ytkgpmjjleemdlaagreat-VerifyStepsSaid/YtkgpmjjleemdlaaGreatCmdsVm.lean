/- Commands of functions, and that they are what the code comes to. -/
import Derived.Test.YtkgpmjjleemdlaaGreatEngK
import Derived.Test.YtkgpmjjleemdlaaGreatRows
namespace Go.Proofs.YtkgpmjjleemdlaaGreat
open Go.Eng
/- tipstaff/insn.Of -/
def c_insn_Of : Cmd :=
  (.seq
   (.new (some 1) 82 (.const (.agg #[(.int .i64 0), (.int .i64 0), (.int .i64 0), (.bool false), (.bool false)])) [])
  (.seq
   (.seq
    (.set 2 (.bin .and (.var 0) (.const (.int .u8 7))))
   (.block 0
     (.seq
      (.seq
       (.set 3 (.bin .eql (.var 2) (.const (.int .u8 4))))
      (.cond (.var 3)
        .skip
        (.set 3 (.bin .eql (.var 2) (.const (.int .u8 7))))))
     (.cond (.var 3)
       (.seq
        (.seq
         (.call (some 4) 37 [(.var 0)] [])
        (.store 5 (.var 1) (.var 4) []))
       .ret)
       (.seq
        (.seq
         (.set 5 (.bin .eql (.var 2) (.const (.int .u8 5))))
        (.cond (.var 5)
          .skip
          (.set 5 (.bin .eql (.var 2) (.const (.int .u8 6))))))
       (.cond (.var 5)
         (.seq
          (.seq
           (.call (some 6) 38 [(.var 0)] [])
          (.store 5 (.var 1) (.var 6) []))
         .ret)
         (.seq
          (.seq
           (.set 7 (.bin .eql (.var 2) (.const (.int .u8 1))))
          (.cond (.var 7)
            .skip
            (.seq
             (.set 7 (.bin .eql (.var 2) (.const (.int .u8 2))))
            (.cond (.var 7)
              .skip
              (.set 7 (.bin .eql (.var 2) (.const (.int .u8 3))))))))
         (.cond (.var 7)
           (.seq
            (.seq
             (.call (some 8) 39 [(.var 0)] [])
            (.store 5 (.var 1) (.var 8) []))
           .ret)
           .skip))))))))
  (.seq
   (.seq
    (.set 9 (.var 0))
   (.block 1
     (.seq
      (.set 10 (.bin .eql (.var 9) (.const (.int .u8 24))))
     (.cond (.var 10)
       (.seq
        (.seq
         (.chk [(.upd 2 1 (.upd 0 1 (.const (.agg #[(.int .i64 0), (.int .i64 0), (.int .i64 0), (.bool false), (.bool false)])) (.const (.int .i64 9))) (.const (.int .i64 8)))])
        (.store 5 (.var 1) (.upd 2 1 (.upd 0 1 (.const (.agg #[(.int .i64 0), (.int .i64 0), (.int .i64 0), (.bool false), (.bool false)])) (.const (.int .i64 9))) (.const (.int .i64 8))) []))
       .ret)
       (.seq
        (.set 11 (.bin .eql (.var 9) (.const (.int .u8 0))))
       (.cond (.var 11)
         (.seq
          (.seq
           (.chk [(.upd 0 1 (.const (.agg #[(.int .i64 0), (.int .i64 0), (.int .i64 0), (.bool false), (.bool false)])) (.const (.int .i64 10)))])
          (.store 5 (.var 1) (.upd 0 1 (.const (.agg #[(.int .i64 0), (.int .i64 0), (.int .i64 0), (.bool false), (.bool false)])) (.const (.int .i64 10))) []))
         .ret)
         .skip))))))
  (.seq
   (.store 5 (.var 1) (.const (.agg #[(.int .i64 0), (.int .i64 0), (.int .i64 0), (.bool false), (.bool false)])) [])
  .ret))))
abbrev v_insn_Of : List Nat := [0, 2, 4, 5, 9, 10, 14, 15, 20, 21, 22, 25]
abbrev k_insn_Of : List (List Nat) := []
abbrev r_insn_Of : List Ex := [(.ld (some 5) (.var 1))]
theorem ok_insn_Of : compile Tryz.prog Tryz.f24 v_insn_Of k_insn_Of = some (c_insn_Of, r_insn_Of) := by kernel_rfl

/- tipstaff/insn.alu -/
def c_insn_alu : Cmd :=
  (.seq
   (.new (some 1) 82 (.const (.agg #[(.int .i64 0), (.int .i64 0), (.int .i64 0), (.bool false), (.bool false)])) [])
  (.seq
   (.seq
    (.set 3 (.upd 4 1 (.upd 3 1 (.upd 2 1 (.upd 1 1 (.upd 0 1 (.const (.agg #[(.int .i64 0), (.int .i64 0), (.int .i64 0), (.bool false), (.bool false)])) (.const (.int .i64 1))) (.conv .i64 (.bin .shr (.var 0) (.const (.int .u64 4))))) (.const (.int .i64 0))) (.bin .eql (.bin .and (.var 0) (.const (.int .u8 7))) (.const (.int .u8 7)))) (.bin .neq (.bin .and (.var 0) (.const (.int .u8 8))) (.const (.int .u8 0)))))
   (.seq
    (.new (some 2) 82 (.const (.agg #[(.int .i64 0), (.int .i64 0), (.int .i64 0), (.bool false), (.bool false)])) [])
   (.store 5 (.var 2) (.var 3) [])))
  (.seq
   (.cond (.pick (.bin .gtr (.ld none (.offp 1 (.var 2))) (.const (.int .i64 12))) (.const (.bool true)) (.pick (.bin .eql (.ld none (.offp 1 (.var 2))) (.const (.int .i64 8))) (.ld none (.offp 4 (.var 2))) (.const (.bool false))))
     (.seq
      (.store 5 (.var 1) (.const (.agg #[(.int .i64 0), (.int .i64 0), (.int .i64 0), (.bool false), (.bool false)])) [])
     .ret)
     .skip)
  (.seq
   (.store 5 (.var 1) (.ld (some 5) (.var 2)) [])
  .ret))))
abbrev v_insn_alu : List Nat := [0, 2, 3, 13]
abbrev k_insn_alu : List (List Nat) := []
abbrev r_insn_alu : List Ex := [(.ld (some 5) (.var 1))]
theorem ok_insn_alu : compile Tryz.prog Tryz.f37 v_insn_alu k_insn_alu = some (c_insn_alu, r_insn_alu) := by kernel_rfl

/- tipstaff/insn.jump -/
def c_insn_jump : Cmd :=
  (.seq
   (.new (some 1) 82 (.const (.agg #[(.int .i64 0), (.int .i64 0), (.int .i64 0), (.bool false), (.bool false)])) [])
  (.seq
   (.seq
    (.set 3 (.upd 4 1 (.upd 3 1 (.upd 2 1 (.upd 1 1 (.upd 0 1 (.const (.agg #[(.int .i64 0), (.int .i64 0), (.int .i64 0), (.bool false), (.bool false)])) (.const (.int .i64 2))) (.conv .i64 (.bin .shr (.var 0) (.const (.int .u64 4))))) (.const (.int .i64 0))) (.bin .eql (.bin .and (.var 0) (.const (.int .u8 7))) (.const (.int .u8 5)))) (.bin .neq (.bin .and (.var 0) (.const (.int .u8 8))) (.const (.int .u8 0)))))
   (.seq
    (.new (some 2) 82 (.const (.agg #[(.int .i64 0), (.int .i64 0), (.int .i64 0), (.bool false), (.bool false)])) [])
   (.store 5 (.var 2) (.var 3) [])))
  (.seq
   (.set 4 (.pick (.ld none (.offp 3 (.var 2))) (.un .not (.ld none (.offp 4 (.var 2)))) (.const (.bool false))))
  (.seq
   (.seq
    (.set 5 (.ld none (.offp 1 (.var 2))))
   (.block 0
     (.seq
      (.set 6 (.bin .eql (.var 5) (.const (.int .i64 0))))
     (.cond (.var 6)
       (.seq
        (.chk [(.upd 0 1 (.const (.agg #[(.int .i64 0), (.int .i64 0), (.int .i64 0), (.bool false), (.bool false)])) (.const (.int .i64 3)))])
       (.store 5 (.var 2) (.upd 0 1 (.const (.agg #[(.int .i64 0), (.int .i64 0), (.int .i64 0), (.bool false), (.bool false)])) (.const (.int .i64 3))) []))
       (.seq
        (.set 7 (.bin .eql (.var 5) (.const (.int .i64 8))))
       (.cond (.var 7)
         (.seq
          (.chk [(.upd 0 1 (.const (.agg #[(.int .i64 0), (.int .i64 0), (.int .i64 0), (.bool false), (.bool false)])) (.const (.int .i64 4)))])
         (.store 5 (.var 2) (.upd 0 1 (.const (.agg #[(.int .i64 0), (.int .i64 0), (.int .i64 0), (.bool false), (.bool false)])) (.const (.int .i64 4))) []))
         (.seq
          (.set 8 (.bin .eql (.var 5) (.const (.int .i64 9))))
         (.cond (.var 8)
           (.seq
            (.chk [(.upd 0 1 (.const (.agg #[(.int .i64 0), (.int .i64 0), (.int .i64 0), (.bool false), (.bool false)])) (.const (.int .i64 5)))])
           (.store 5 (.var 2) (.upd 0 1 (.const (.agg #[(.int .i64 0), (.int .i64 0), (.int .i64 0), (.bool false), (.bool false)])) (.const (.int .i64 5))) []))
           (.seq
            (.cond (.bin .gtr (.ld none (.offp 1 (.var 2))) (.const (.int .i64 13)))
              (.seq
               (.store 5 (.var 1) (.const (.agg #[(.int .i64 0), (.int .i64 0), (.int .i64 0), (.bool false), (.bool false)])) [])
              .ret)
              .skip)
           (.seq
            (.store 5 (.var 1) (.ld (some 5) (.var 2)) [])
           .ret))))))))))
  (.seq
   (.cond (.un .not (.var 4))
     (.seq
      (.store 5 (.var 1) (.const (.agg #[(.int .i64 0), (.int .i64 0), (.int .i64 0), (.bool false), (.bool false)])) [])
     .ret)
     .skip)
  (.seq
   (.store 5 (.var 1) (.ld (some 5) (.var 2)) [])
  .ret))))))
abbrev v_insn_jump : List Nat := [0, 2, 3, 14, 4, 23, 29, 32, 35]
abbrev k_insn_jump : List (List Nat) := []
abbrev r_insn_jump : List Ex := [(.ld (some 5) (.var 1))]
theorem ok_insn_jump : compile Tryz.prog Tryz.f38 v_insn_jump k_insn_jump = some (c_insn_jump, r_insn_jump) := by kernel_rfl

/- tipstaff/insn.memory -/
def c_insn_memory : Cmd :=
  (.seq
   (.new (some 1) 82 (.const (.agg #[(.int .i64 0), (.int .i64 0), (.int .i64 0), (.bool false), (.bool false)])) [])
  (.seq
   (.seq
    (.row (some 2) 3 4 (.upd 3 1 (.upd 2 1 (.upd 1 1 (.upd 0 1 (.const (.agg (Array.replicate 4 (.int .i64 0)))) (.const (.int .i64 4))) (.const (.int .i64 2))) (.const (.int .i64 1))) (.const (.int .i64 8))) [])
   (.seq
    (.set 4 (.upd 4 1 (.upd 2 1 (.upd 0 1 (.const (.agg #[(.int .i64 0), (.int .i64 0), (.int .i64 0), (.bool false), (.bool false)])) (.const (.int .i64 7))) (.ld none (.ixSl 1 (.var 2) (.bin .and (.bin .shr (.var 0) (.const (.int .u64 3))) (.const (.int .u8 3)))))) (.bin .eql (.bin .and (.var 0) (.const (.int .u8 7))) (.const (.int .u8 3)))))
   (.seq
    (.new (some 3) 82 (.const (.agg #[(.int .i64 0), (.int .i64 0), (.int .i64 0), (.bool false), (.bool false)])) [])
   (.store 5 (.var 3) (.var 4) []))))
  (.seq
   (.set 5 (.bin .shr (.var 0) (.const (.int .u64 5))))
  (.seq
   (.block 0
     (.seq
      (.block 3
        (.seq
         (.block 2
           (.seq
            (.block 1
              (.seq
               (.seq
                (.seq
                 (.set 6 (.pick (.bin .eql (.var 5) (.const (.int .u8 3))) (.bin .eql (.bin .and (.var 0) (.const (.int .u8 7))) (.const (.int .u8 1))) (.const (.bool false))))
                (.cond (.var 6)
                  (.exit 1)
                  .skip))
               (.seq
                (.seq
                 (.set 7 (.bin .eql (.var 5) (.const (.int .u8 3))))
                (.cond (.var 7)
                  (.exit 2)
                  .skip))
               (.seq
                (.set 8 (.pick (.pick (.bin .eql (.var 5) (.const (.int .u8 6))) (.ld none (.offp 4 (.var 3))) (.const (.bool false))) (.bin .geq (.ld none (.offp 2 (.var 3))) (.const (.int .i64 4))) (.const (.bool false))))
               (.cond (.var 8)
                 (.exit 3)
                 .skip))))
              (.exit 0)))
           (.store 1 (.offp 0 (.var 3)) (.const (.int .i64 6)) [])))
        (.seq
         (.seq
          (.store 5 (.var 1) (.ld (some 5) (.var 3)) [])
         .ret)
        (.exit 0))))
     (.seq
      (.seq
       (.store 1 (.offp 0 (.var 3)) (.const (.int .i64 8)) [])
      (.seq
       (.store 5 (.var 1) (.ld (some 5) (.var 3)) [])
      .ret))
     (.exit 0))))
  (.seq
   (.store 5 (.var 1) (.const (.agg #[(.int .i64 0), (.int .i64 0), (.int .i64 0), (.bool false), (.bool false)])) [])
  .ret)))))
abbrev v_insn_memory : List Nat := [0, 2, 5, 3, 14, 4, 17, 25, 28]
abbrev k_insn_memory : List (List Nat) := []
abbrev r_insn_memory : List Ex := [(.ld (some 5) (.var 1))]
theorem ok_insn_memory : compile Tryz.prog Tryz.f39 v_insn_memory k_insn_memory = some (c_insn_memory, r_insn_memory) := by kernel_rfl

/- tipstaff/scalar.Eval -/
def c_scalar_Eval : Cmd :=
  (.seq
   (.set 4 (.const (.int .u64 0)))
  (.seq
   (.cond (.un .not (.var 1))
     (.seq
      (.chk [(.conv .u64 (.conv .u32 (.var 3)))])
     (.seq
      (.set 2 (.conv .u64 (.conv .u32 (.var 2))))
     (.set 3 (.conv .u64 (.conv .u32 (.var 3))))))
     .skip)
  (.seq
   (.set 5 (.const (.int .u64 0)))
  (.seq
   (.seq
    (.set 6 (.var 0))
   (.block 0
     (.seq
      (.seq
       (.set 7 (.bin .eql (.var 6) (.const (.int .i64 6))))
      (.cond (.var 7)
        .skip
        (.seq
         (.set 7 (.bin .eql (.var 6) (.const (.int .i64 7))))
        (.cond (.var 7)
          .skip
          (.set 7 (.bin .eql (.var 6) (.const (.int .i64 12))))))))
     (.cond (.var 7)
       (.seq
        (.call (some 8) 143 [(.var 0), (.var 1), (.var 2), (.var 3)] [])
       (.set 5 (.var 8)))
       (.seq
        (.call (some 9) 144 [(.var 0), (.var 2), (.var 3)] [])
       (.set 5 (.var 9)))))))
  (.seq
   (.cond (.un .not (.var 1))
     (.set 5 (.conv .u64 (.conv .u32 (.var 5))))
     .skip)
  (.seq
   (.set 4 (.var 5))
  .ret))))))
abbrev v_scalar_Eval : List Nat := [0, 1, 2, 3, 8, 9, 18, 23, 31, 22]
abbrev k_scalar_Eval : List (List Nat) := []
abbrev r_scalar_Eval : List Ex := [(.var 4)]
theorem ok_scalar_Eval : compile Tryz.prog Tryz.f121 v_scalar_Eval k_scalar_Eval = some (c_scalar_Eval, r_scalar_Eval) := by kernel_rfl

/- tipstaff/scalar.plain -/
def c_scalar_plain : Cmd :=
  (.seq
   (.set 3 (.const (.int .u64 0)))
  (.seq
   (.seq
    (.set 4 (.var 0))
   (.block 0
     (.seq
      (.set 5 (.bin .eql (.var 4) (.const (.int .i64 0))))
     (.cond (.var 5)
       (.seq
        (.set 3 (.bin .add (.var 1) (.var 2)))
       .ret)
       (.seq
        (.set 6 (.bin .eql (.var 4) (.const (.int .i64 1))))
       (.cond (.var 6)
         (.seq
          (.set 3 (.bin .sub (.var 1) (.var 2)))
         .ret)
         (.seq
          (.set 7 (.bin .eql (.var 4) (.const (.int .i64 2))))
         (.cond (.var 7)
           (.seq
            (.set 3 (.bin .mul (.var 1) (.var 2)))
           .ret)
           (.seq
            (.set 8 (.bin .eql (.var 4) (.const (.int .i64 4))))
           (.cond (.var 8)
             (.seq
              (.set 3 (.bin .or (.var 1) (.var 2)))
             .ret)
             (.seq
              (.set 9 (.bin .eql (.var 4) (.const (.int .i64 5))))
             (.cond (.var 9)
               (.seq
                (.set 3 (.bin .and (.var 1) (.var 2)))
               .ret)
               (.seq
                (.set 10 (.bin .eql (.var 4) (.const (.int .i64 8))))
               (.cond (.var 10)
                 (.seq
                  (.set 3 (.un .neg (.var 1)))
                 .ret)
                 (.seq
                  (.set 11 (.bin .eql (.var 4) (.const (.int .i64 10))))
                 (.cond (.var 11)
                   (.seq
                    (.set 3 (.bin .xor (.var 1) (.var 2)))
                   .ret)
                   (.seq
                    (.set 12 (.bin .eql (.var 4) (.const (.int .i64 11))))
                   (.cond (.var 12)
                     (.seq
                      (.set 3 (.var 2))
                     .ret)
                     (.seq
                      (.set 13 (.bin .eql (.var 4) (.const (.int .i64 3))))
                     (.cond (.var 13)
                       (.cond (.bin .neq (.var 2) (.const (.int .u64 0)))
                         (.seq
                          (.set 3 (.bin .quo (.var 1) (.var 2)))
                         .ret)
                         .skip)
                       (.seq
                        (.set 14 (.bin .eql (.var 4) (.const (.int .i64 9))))
                       (.cond (.var 14)
                         (.seq
                          (.cond (.bin .neq (.var 2) (.const (.int .u64 0)))
                            (.seq
                             (.set 3 (.bin .rem (.var 1) (.var 2)))
                            .ret)
                            .skip)
                         (.seq
                          (.set 3 (.var 1))
                         .ret))
                         .skip))))))))))))))))))))))
  (.seq
   (.set 3 (.const (.int .u64 0)))
  .ret)))
abbrev v_scalar_plain : List Nat := [0, 1, 2, 6, 7, 8, 13, 18, 23, 28, 33, 37, 42, 45, 52]
abbrev k_scalar_plain : List (List Nat) := []
abbrev r_scalar_plain : List Ex := [(.var 3)]
theorem ok_scalar_plain : compile Tryz.prog Tryz.f144 v_scalar_plain k_scalar_plain = some (c_scalar_plain, r_scalar_plain) := by kernel_rfl

/- tipstaff/scalar.shift -/
def c_scalar_shift : Cmd :=
  (.seq
   (.set 4 (.const (.int .u64 0)))
  (.seq
   (.set 5 (.bin .rem (.var 3) (.const (.int .u64 64))))
  (.seq
   (.cond (.un .not (.var 1))
     (.set 5 (.bin .rem (.var 3) (.const (.int .u64 32))))
     .skip)
  (.seq
   (.block 0
     (.seq
      (.set 6 (.bin .eql (.var 0) (.const (.int .i64 6))))
     (.cond (.var 6)
       (.seq
        (.set 4 (.bin .shl (.var 2) (.var 5)))
       .ret)
       (.seq
        (.set 7 (.bin .eql (.var 0) (.const (.int .i64 7))))
       (.cond (.var 7)
         (.seq
          (.set 4 (.bin .shr (.var 2) (.var 5)))
         .ret)
         (.seq
          (.set 8 (.var 1))
         (.cond (.var 8)
           (.seq
            (.set 4 (.conv .u64 (.bin .shr (.conv .i64 (.var 2)) (.var 5))))
           .ret)
           .skip)))))))
  (.seq
   (.set 4 (.conv .u64 (.bin .shr (.conv .i32 (.var 2)) (.var 5))))
  .ret)))))
abbrev v_scalar_shift : List Nat := [0, 1, 2, 3, 8, 9, 16, 22, 28]
abbrev k_scalar_shift : List (List Nat) := []
abbrev r_scalar_shift : List Ex := [(.var 4)]
theorem ok_scalar_shift : compile Tryz.prog Tryz.f143 v_scalar_shift k_scalar_shift = some (c_scalar_shift, r_scalar_shift) := by kernel_rfl

/- tipstaff/shape.Target -/
def c_shape_Target : Cmd :=
  (.seq
   (.seq
    (.new (some 3) 28 (.var 1) [])
   (.set 2 (.const (.int .i64 0))))
  (.seq
   (.set 2 (.bin .add (.bin .add (.var 0) (.conv .i64 (.ld none (.offp 3 (.var 3))))) (.const (.int .i64 1))))
  .ret))
abbrev v_shape_Target : List Nat := [0, 1, 4, 3]
abbrev k_shape_Target : List (List Nat) := []
abbrev r_shape_Target : List Ex := [(.var 2)]
theorem ok_shape_Target : compile Tryz.prog Tryz.f54 v_shape_Target k_shape_Target = some (c_shape_Target, r_shape_Target) := by kernel_rfl
end Go.Proofs.YtkgpmjjleemdlaaGreat
