/- Commands of functions, and that they are what the code comes to. -/
import Derived.Test.YtkgpmjjleemdlaaGreatEngO
import Derived.Test.YtkgpmjjleemdlaaGreatRows

namespace Go.Proofs.YtkgpmjjleemdlaaGreat
open Go.Eng
/- math/bits.Len -/
def c_math_bits_Len : Cmd :=
  (.seq
   (.set 1 (.const (.int .i64 0)))
  (.seq
   (.cond (.const (.bool false))
     (.seq
      (.seq
       (.call (some 2) 70 [(.conv .u32 (.var 0))] [])
      (.set 1 (.var 2)))
     .ret)
     .skip)
  (.seq
   (.seq
    (.call (some 3) 71 [(.var 0)] [])
   (.set 1 (.var 3)))
  .ret)))
abbrev v_math_bits_Len : List Nat := [0, 2, 5, 7]
abbrev k_math_bits_Len : List (List Nat) := []
abbrev r_math_bits_Len : List Ex := [(.var 1)]
theorem ok_math_bits_Len : compile Tryz.prog Tryz.f41 v_math_bits_Len k_math_bits_Len = some (c_math_bits_Len, r_math_bits_Len) := by kernel_rfl

/- math/bits.Len64 -/
def c_math_bits_Len64 : Cmd :=
  (.seq
   (.set 1 (.const (.int .i64 0)))
  (.seq
   (.cond (.bin .geq (.var 0) (.const (.int .u64 4294967296)))
     (.seq
      (.set 0 (.bin .shr (.var 0) (.const (.int .u64 32))))
     (.set 1 (.const (.int .i64 32))))
     .skip)
  (.seq
   (.cond (.bin .geq (.var 0) (.const (.int .u64 65536)))
     (.seq
      (.set 0 (.bin .shr (.var 0) (.const (.int .u64 16))))
     (.set 1 (.bin .add (.var 1) (.const (.int .i64 16)))))
     .skip)
  (.seq
   (.cond (.bin .geq (.var 0) (.const (.int .u64 256)))
     (.seq
      (.set 0 (.bin .shr (.var 0) (.const (.int .u64 8))))
     (.set 1 (.bin .add (.var 1) (.const (.int .i64 8)))))
     .skip)
  (.seq
   (.seq
    (.chk [(.bin .add (.var 1) (.conv .i64 (.idxStr (.const (.string ⟨#[0, 1, 2, 2, 3, 3, 3, 3, 4, 4, 4, 4, 4, 4, 4, 4, 5, 5, 5, 5, 5, 5, 5, 5, 5, 5, 5, 5, 5, 5, 5, 5, 6, 6, 6, 6, 6, 6, 6, 6, 6, 6, 6, 6, 6, 6, 6, 6, 6, 6, 6, 6, 6, 6, 6, 6, 6, 6, 6, 6, 6, 6, 6, 6, 7, 7, 7, 7, 7, 7, 7, 7, 7, 7, 7, 7, 7, 7, 7, 7, 7, 7, 7, 7, 7, 7, 7, 7, 7, 7, 7, 7, 7, 7, 7, 7, 7, 7, 7, 7, 7, 7, 7, 7, 7, 7, 7, 7, 7, 7, 7, 7, 7, 7, 7, 7, 7, 7, 7, 7, 7, 7, 7, 7, 7, 7, 7, 7, 8, 8, 8, 8, 8, 8, 8, 8, 8, 8, 8, 8, 8, 8, 8, 8, 8, 8, 8, 8, 8, 8, 8, 8, 8, 8, 8, 8, 8, 8, 8, 8, 8, 8, 8, 8, 8, 8, 8, 8, 8, 8, 8, 8, 8, 8, 8, 8, 8, 8, 8, 8, 8, 8, 8, 8, 8, 8, 8, 8, 8, 8, 8, 8, 8, 8, 8, 8, 8, 8, 8, 8, 8, 8, 8, 8, 8, 8, 8, 8, 8, 8, 8, 8, 8, 8, 8, 8, 8, 8, 8, 8, 8, 8, 8, 8, 8, 8, 8, 8, 8, 8, 8, 8, 8, 8, 8, 8, 8, 8, 8, 8, 8, 8, 8, 8, 8, 8, 8, 8, 8, 8, 8, 8, 8, 8, 8, 8]⟩)) (.conv .u8 (.var 0))))), (.conv .i64 (.idxStr (.const (.string ⟨#[0, 1, 2, 2, 3, 3, 3, 3, 4, 4, 4, 4, 4, 4, 4, 4, 5, 5, 5, 5, 5, 5, 5, 5, 5, 5, 5, 5, 5, 5, 5, 5, 6, 6, 6, 6, 6, 6, 6, 6, 6, 6, 6, 6, 6, 6, 6, 6, 6, 6, 6, 6, 6, 6, 6, 6, 6, 6, 6, 6, 6, 6, 6, 6, 7, 7, 7, 7, 7, 7, 7, 7, 7, 7, 7, 7, 7, 7, 7, 7, 7, 7, 7, 7, 7, 7, 7, 7, 7, 7, 7, 7, 7, 7, 7, 7, 7, 7, 7, 7, 7, 7, 7, 7, 7, 7, 7, 7, 7, 7, 7, 7, 7, 7, 7, 7, 7, 7, 7, 7, 7, 7, 7, 7, 7, 7, 7, 7, 8, 8, 8, 8, 8, 8, 8, 8, 8, 8, 8, 8, 8, 8, 8, 8, 8, 8, 8, 8, 8, 8, 8, 8, 8, 8, 8, 8, 8, 8, 8, 8, 8, 8, 8, 8, 8, 8, 8, 8, 8, 8, 8, 8, 8, 8, 8, 8, 8, 8, 8, 8, 8, 8, 8, 8, 8, 8, 8, 8, 8, 8, 8, 8, 8, 8, 8, 8, 8, 8, 8, 8, 8, 8, 8, 8, 8, 8, 8, 8, 8, 8, 8, 8, 8, 8, 8, 8, 8, 8, 8, 8, 8, 8, 8, 8, 8, 8, 8, 8, 8, 8, 8, 8, 8, 8, 8, 8, 8, 8, 8, 8, 8, 8, 8, 8, 8, 8, 8, 8, 8, 8, 8, 8, 8, 8, 8, 8]⟩)) (.conv .u8 (.var 0)))), (.idxStr (.const (.string ⟨#[0, 1, 2, 2, 3, 3, 3, 3, 4, 4, 4, 4, 4, 4, 4, 4, 5, 5, 5, 5, 5, 5, 5, 5, 5, 5, 5, 5, 5, 5, 5, 5, 6, 6, 6, 6, 6, 6, 6, 6, 6, 6, 6, 6, 6, 6, 6, 6, 6, 6, 6, 6, 6, 6, 6, 6, 6, 6, 6, 6, 6, 6, 6, 6, 7, 7, 7, 7, 7, 7, 7, 7, 7, 7, 7, 7, 7, 7, 7, 7, 7, 7, 7, 7, 7, 7, 7, 7, 7, 7, 7, 7, 7, 7, 7, 7, 7, 7, 7, 7, 7, 7, 7, 7, 7, 7, 7, 7, 7, 7, 7, 7, 7, 7, 7, 7, 7, 7, 7, 7, 7, 7, 7, 7, 7, 7, 7, 7, 8, 8, 8, 8, 8, 8, 8, 8, 8, 8, 8, 8, 8, 8, 8, 8, 8, 8, 8, 8, 8, 8, 8, 8, 8, 8, 8, 8, 8, 8, 8, 8, 8, 8, 8, 8, 8, 8, 8, 8, 8, 8, 8, 8, 8, 8, 8, 8, 8, 8, 8, 8, 8, 8, 8, 8, 8, 8, 8, 8, 8, 8, 8, 8, 8, 8, 8, 8, 8, 8, 8, 8, 8, 8, 8, 8, 8, 8, 8, 8, 8, 8, 8, 8, 8, 8, 8, 8, 8, 8, 8, 8, 8, 8, 8, 8, 8, 8, 8, 8, 8, 8, 8, 8, 8, 8, 8, 8, 8, 8, 8, 8, 8, 8, 8, 8, 8, 8, 8, 8, 8, 8, 8, 8, 8, 8, 8, 8]⟩)) (.conv .u8 (.var 0)))])
   (.set 1 (.bin .add (.var 1) (.conv .i64 (.idxStr (.const (.string ⟨#[0, 1, 2, 2, 3, 3, 3, 3, 4, 4, 4, 4, 4, 4, 4, 4, 5, 5, 5, 5, 5, 5, 5, 5, 5, 5, 5, 5, 5, 5, 5, 5, 6, 6, 6, 6, 6, 6, 6, 6, 6, 6, 6, 6, 6, 6, 6, 6, 6, 6, 6, 6, 6, 6, 6, 6, 6, 6, 6, 6, 6, 6, 6, 6, 7, 7, 7, 7, 7, 7, 7, 7, 7, 7, 7, 7, 7, 7, 7, 7, 7, 7, 7, 7, 7, 7, 7, 7, 7, 7, 7, 7, 7, 7, 7, 7, 7, 7, 7, 7, 7, 7, 7, 7, 7, 7, 7, 7, 7, 7, 7, 7, 7, 7, 7, 7, 7, 7, 7, 7, 7, 7, 7, 7, 7, 7, 7, 7, 8, 8, 8, 8, 8, 8, 8, 8, 8, 8, 8, 8, 8, 8, 8, 8, 8, 8, 8, 8, 8, 8, 8, 8, 8, 8, 8, 8, 8, 8, 8, 8, 8, 8, 8, 8, 8, 8, 8, 8, 8, 8, 8, 8, 8, 8, 8, 8, 8, 8, 8, 8, 8, 8, 8, 8, 8, 8, 8, 8, 8, 8, 8, 8, 8, 8, 8, 8, 8, 8, 8, 8, 8, 8, 8, 8, 8, 8, 8, 8, 8, 8, 8, 8, 8, 8, 8, 8, 8, 8, 8, 8, 8, 8, 8, 8, 8, 8, 8, 8, 8, 8, 8, 8, 8, 8, 8, 8, 8, 8, 8, 8, 8, 8, 8, 8, 8, 8, 8, 8, 8, 8, 8, 8, 8, 8, 8, 8]⟩)) (.conv .u8 (.var 0)))))))
  .ret)))))
abbrev v_math_bits_Len64 : List Nat := [0, 2]
abbrev k_math_bits_Len64 : List (List Nat) := []
abbrev r_math_bits_Len64 : List Ex := [(.var 1)]
theorem ok_math_bits_Len64 : compile Tryz.prog Tryz.f71 v_math_bits_Len64 k_math_bits_Len64 = some (c_math_bits_Len64, r_math_bits_Len64) := by kernel_rfl

/- slices.nextPowerOfTwo -/
def c_slices_nextPowerOfTwo : Cmd :=
  (.seq
   (.set 1 (.const (.int .u64 0)))
  (.seq
   (.seq
    (.call (some 2) 41 [(.conv .u64 (.var 0))] [])
   (.set 1 (.bin .shl (.const (.int .u64 1)) (.var 2))))
  .ret))
abbrev v_slices_nextPowerOfTwo : List Nat := [0, 2, 5]
abbrev k_slices_nextPowerOfTwo : List (List Nat) := []
abbrev r_slices_nextPowerOfTwo : List Ex := [(.var 1)]
theorem ok_slices_nextPowerOfTwo : compile Tryz.prog Tryz.f107 v_slices_nextPowerOfTwo k_slices_nextPowerOfTwo = some (c_slices_nextPowerOfTwo, r_slices_nextPowerOfTwo) := by kernel_rfl

/- (*slices.xorshift).Next -/
def c_slices_xorshift_Next : Cmd :=
  (.seq
   (.set 1 (.const (.int .u64 0)))
  (.seq
   (.seq
    .draw
   (.store 1 (.nn (.var 0)) (.bin .xor (.ld none (.nn (.var 0))) (.bin .shl (.ld none (.nn (.var 0))) (.const (.int .u64 13)))) []))
  (.seq
   (.seq
    .draw
   (.store 1 (.nn (.var 0)) (.bin .xor (.ld none (.nn (.var 0))) (.bin .shr (.ld none (.nn (.var 0))) (.const (.int .u64 7)))) []))
  (.seq
   (.seq
    .draw
   (.store 1 (.nn (.var 0)) (.bin .xor (.ld none (.nn (.var 0))) (.bin .shl (.ld none (.nn (.var 0))) (.const (.int .u64 17)))) []))
  (.seq
   (.set 1 (.ld none (.nn (.var 0))))
  .ret)))))
abbrev v_slices_xorshift_Next : List Nat := [0, 2]
abbrev k_slices_xorshift_Next : List (List Nat) := []
abbrev r_slices_xorshift_Next : List Ex := [(.var 1)]
theorem ok_slices_xorshift_Next : compile Tryz.prog Tryz.f108 v_slices_xorshift_Next k_slices_xorshift_Next = some (c_slices_xorshift_Next, r_slices_xorshift_Next) := by kernel_rfl
end Go.Proofs.YtkgpmjjleemdlaaGreat
namespace Go.Proofs.YtkgpmjjleemdlaaGreat
open Go.Eng
end Go.Proofs.YtkgpmjjleemdlaaGreat
namespace Go.Proofs.YtkgpmjjleemdlaaGreat
open Go.Eng
/- slices.Sort[[]int,int] -/
def c_so64_Sort : Cmd :=
  (.seq
   (.set 1 (.len false (.var 0)))
  (.seq
   (.chk [(.var 0)])
  (.seq
   (.call (some 2) 41 [(.conv .u64 (.var 1))] [])
  (.call none 42 [(.var 0), (.const (.int .i64 0)), (.var 1), (.var 2)] []))))
abbrev v_so64_Sort : List Nat := [0, 2, 9]
abbrev k_so64_Sort : List (List Nat) := []
abbrev r_so64_Sort : List Ex := []
theorem ok_so64_Sort : compile Tryz.prog Tryz.f27 v_so64_Sort k_so64_Sort = some (c_so64_Sort, r_so64_Sort) := by kernel_rfl

/- slices.Compact[[]int,int] -/
def c_so64_Compact : Cmd :=
  (.seq
   (.set 1 (.const (.slice none 0 0)))
  (.seq
   (.cond (.bin .lss (.len false (.var 0)) (.const (.int .i64 2)))
     (.seq
      (.set 1 (.var 0))
     .ret)
     .skip)
  (.seq
   (.seq
    (.set 2 (.const (.int .i64 1)))
   (.block 0
     (.loop [0, 2]
       (.seq
        (.cond (.bin .lss (.var 2) (.len false (.var 0)))
          .skip
          (.exit 0))
       (.seq
        (.block 1
          (.seq
           .draw
          (.cond (.bin .eql (.ld none (.ixSl 1 (.var 0) (.var 2))) (.ld none (.ixSl 1 (.var 0) (.bin .sub (.var 2) (.const (.int .i64 1))))))
            (.seq
             (.set 3 (.slSl 1 (.var 0) (.var 2) (.len false (.var 0))))
            (.seq
             (.seq
              (.set 4 (.const (.int .i64 1)))
             (.block 2
               (.loop [0, 2, 3, 4]
                 (.seq
                  (.cond (.bin .lss (.var 4) (.len false (.var 3)))
                    .skip
                    (.exit 2))
                 (.seq
                  (.block 3
                    (.seq
                     .draw
                    (.cond (.bin .neq (.ld none (.ixSl 1 (.var 3) (.var 4))) (.ld none (.ixSl 1 (.var 3) (.bin .sub (.var 4) (.const (.int .i64 1))))))
                      (.seq
                       (.store 1 (.ixSl 1 (.var 0) (.var 2)) (.ld none (.ixSl 1 (.var 3) (.var 4))) [])
                      (.set 2 (.bin .add (.var 2) (.const (.int .i64 1)))))
                      .skip)))
                 (.set 4 (.bin .add (.var 4) (.const (.int .i64 1)))))))))
            (.seq
             (.bi none .clear [26] 0 [(.slSl 1 (.var 0) (.var 2) (.len false (.var 0)))] [])
            (.seq
             (.set 1 (.slSl 1 (.var 0) (.const (.int .i64 0)) (.var 2)))
            .ret))))
            .skip)))
       (.set 2 (.bin .add (.var 2) (.const (.int .i64 1)))))))))
  (.seq
   (.set 1 (.var 0))
  .ret))))
abbrev v_so64_Compact : List Nat := [0, 2, 3, 4, 5]
abbrev k_so64_Compact : List (List Nat) := [[0, 2], [0, 2, 3, 4]]
abbrev r_so64_Compact : List Ex := [(.var 1)]
theorem ok_so64_Compact : compile Tryz.prog Tryz.f28 v_so64_Compact k_so64_Compact = some (c_so64_Compact, r_so64_Compact) := by kernel_rfl

/- slices.pdqsortOrdered[int] -/
def c_so64_pdqsortOrdered : Cmd :=
  (.seq
   (.set 4 (.const (.bool true)))
  (.seq
   (.set 5 (.const (.bool true)))
  (.block 0
    (.loop [0, 1, 2, 3, 4, 5]
      (.block 1
        (.seq
         (.set 6 (.bin .sub (.var 2) (.var 1)))
        (.seq
         (.cond (.bin .leq (.var 6) (.const (.int .i64 12)))
           (.seq
            (.call none 72 [(.var 0), (.var 1), (.var 2)] [])
           .ret)
           .skip)
        (.seq
         (.cond (.bin .eql (.var 3) (.const (.int .i64 0)))
           (.seq
            (.call none 73 [(.var 0), (.var 1), (.var 2)] [])
           .ret)
           .skip)
        (.seq
         (.cond (.un .not (.var 4))
           (.seq
            (.call none 74 [(.var 0), (.var 1), (.var 2)] [])
           (.set 3 (.bin .sub (.var 3) (.const (.int .i64 1)))))
           .skip)
        (.seq
         (.seq
          (.call (some 7) 75 [(.var 0), (.var 1), (.var 2)] [])
         (.seq
          (.chk [(.proj 1 (.var 7))])
         (.seq
          (.set 8 (.proj 0 (.var 7)))
         (.set 9 (.proj 1 (.var 7))))))
        (.seq
         (.cond (.bin .eql (.var 9) (.const (.int .i64 2)))
           (.seq
            (.call none 76 [(.var 0), (.var 1), (.var 2)] [])
           (.seq
            (.set 8 (.bin .sub (.bin .sub (.var 2) (.const (.int .i64 1))) (.bin .sub (.var 8) (.var 1))))
           (.set 9 (.const (.int .i64 1)))))
           .skip)
        (.seq
         (.cond (.pick (.pick (.var 4) (.var 5) (.const (.bool false))) (.bin .eql (.var 9) (.const (.int .i64 1))) (.const (.bool false)))
           (.seq
            (.call (some 10) 77 [(.var 0), (.var 1), (.var 2)] [])
           (.cond (.var 10)
             .ret
             .skip))
           .skip)
        (.seq
         (.seq
          (.seq
           .draw
          (.seq
           (.chk [(.pick (.bin .gtr (.var 1) (.const (.int .i64 0))) (.ld none (.ixSl 1 (.var 0) (.var 8))) (.const (.bool false))), (.pick (.bin .gtr (.var 1) (.const (.int .i64 0))) (.ld none (.ixSl 1 (.var 0) (.bin .sub (.var 1) (.const (.int .i64 1))))) (.const (.bool false)))])
          (.cond (.pick (.bin .gtr (.var 1) (.const (.int .i64 0))) (.const (.bool true)) (.const (.bool false)))
            (.call (some 11) 78 [(.ld none (.ixSl 1 (.var 0) (.bin .sub (.var 1) (.const (.int .i64 1))))), (.ld none (.ixSl 1 (.var 0) (.var 8)))] [])
            (.clr [11]))))
         (.cond (.pick (.bin .gtr (.var 1) (.const (.int .i64 0))) (.un .not (.var 11)) (.const (.bool false)))
           (.seq
            (.seq
             (.call (some 12) 79 [(.var 0), (.var 1), (.var 2), (.var 8)] [])
            (.set 13 (.var 12)))
           (.seq
            (.set 1 (.var 13))
           (.exit 1)))
           .skip))
        (.seq
         (.seq
          (.call (some 14) 80 [(.var 0), (.var 1), (.var 2), (.var 8)] [])
         (.seq
          (.chk [(.proj 1 (.var 14))])
         (.seq
          (.set 15 (.proj 0 (.var 14)))
         (.set 16 (.proj 1 (.var 14))))))
        (.seq
         (.set 5 (.var 16))
        (.seq
         (.seq
          (.chk [(.bin .sub (.var 2) (.var 15))])
         (.seq
          (.set 17 (.bin .sub (.var 15) (.var 1)))
         (.set 18 (.bin .sub (.var 2) (.var 15)))))
        (.seq
         (.set 19 (.bin .quo (.var 6) (.const (.int .i64 8))))
        (.cond (.bin .lss (.var 17) (.var 18))
          (.seq
           (.set 4 (.bin .geq (.var 17) (.var 19)))
          (.seq
           (.call none 42 [(.var 0), (.var 1), (.var 15), (.var 3)] [])
          (.set 1 (.bin .add (.var 15) (.const (.int .i64 1))))))
          (.seq
           (.set 4 (.bin .geq (.var 18) (.var 19)))
          (.seq
           (.call none 42 [(.var 0), (.bin .add (.var 15) (.const (.int .i64 1))), (.var 2), (.var 3)] [])
          (.set 2 (.var 15))))))))))))))))))))))
abbrev v_so64_pdqsortOrdered : List Nat := [0, 1, 2, 3, 8, 9, 10, 46, 11, 12, 72, 85, 92, 13, 99, 14, 15, 16, 17, 18]
abbrev k_so64_pdqsortOrdered : List (List Nat) := [[0, 1, 2, 3, 4, 5]]
abbrev r_so64_pdqsortOrdered : List Ex := []
theorem ok_so64_pdqsortOrdered : compile Tryz.prog Tryz.f42 v_so64_pdqsortOrdered k_so64_pdqsortOrdered = some (c_so64_pdqsortOrdered, r_so64_pdqsortOrdered) := by kernel_rfl

/- slices.insertionSortOrdered[int] -/
def c_so64_insertionSortOrdered : Cmd :=
  (.seq
   (.set 3 (.bin .add (.var 1) (.const (.int .i64 1))))
  (.block 0
    (.loop [0, 1, 2, 3]
      (.seq
       (.cond (.bin .lss (.var 3) (.var 2))
         .skip
         (.exit 0))
      (.seq
       (.block 1
         (.seq
          (.set 4 (.var 3))
         (.block 2
           (.loop [0, 1, 2, 3, 4]
             (.seq
              (.seq
               (.seq
                .draw
               (.seq
                (.chk [(.pick (.bin .gtr (.var 4) (.var 1)) (.ld none (.ixSl 1 (.var 0) (.bin .sub (.var 4) (.const (.int .i64 1))))) (.const (.bool false))), (.pick (.bin .gtr (.var 4) (.var 1)) (.ld none (.ixSl 1 (.var 0) (.var 4))) (.const (.bool false)))])
               (.cond (.pick (.bin .gtr (.var 4) (.var 1)) (.const (.bool true)) (.const (.bool false)))
                 (.call (some 5) 78 [(.ld none (.ixSl 1 (.var 0) (.var 4))), (.ld none (.ixSl 1 (.var 0) (.bin .sub (.var 4) (.const (.int .i64 1)))))] [])
                 (.clr [5]))))
              (.cond (.pick (.bin .gtr (.var 4) (.var 1)) (.var 5) (.const (.bool false)))
                .skip
                (.exit 2)))
             (.seq
              (.block 3
                (.seq
                 .draw
                (.seq
                 (.chk [(.ld none (.ixSl 1 (.var 0) (.bin .sub (.var 4) (.const (.int .i64 1)))))])
                (.seq
                 (.set 6 (.ld none (.ixSl 1 (.var 0) (.var 4))))
                (.seq
                 (.store 1 (.ixSl 1 (.var 0) (.var 4)) (.ld none (.ixSl 1 (.var 0) (.bin .sub (.var 4) (.const (.int .i64 1))))) [])
                (.store 1 (.ixSl 1 (.var 0) (.bin .sub (.var 4) (.const (.int .i64 1)))) (.var 6) []))))))
             (.set 4 (.bin .sub (.var 4) (.const (.int .i64 1))))))))))
      (.set 3 (.bin .add (.var 3) (.const (.int .i64 1)))))))))
abbrev v_so64_insertionSortOrdered : List Nat := [0, 1, 2, 6, 7, 29, 46]
abbrev k_so64_insertionSortOrdered : List (List Nat) := [[0, 1, 2, 3], [0, 1, 2, 3, 4]]
abbrev r_so64_insertionSortOrdered : List Ex := []
theorem ok_so64_insertionSortOrdered : compile Tryz.prog Tryz.f72 v_so64_insertionSortOrdered k_so64_insertionSortOrdered = some (c_so64_insertionSortOrdered, r_so64_insertionSortOrdered) := by kernel_rfl

/- slices.heapSortOrdered[int] -/
def c_so64_heapSortOrdered : Cmd :=
  (.seq
   (.set 3 (.var 1))
  (.seq
   (.set 4 (.const (.int .i64 0)))
  (.seq
   (.set 5 (.bin .sub (.var 2) (.var 1)))
  (.seq
   (.seq
    (.set 6 (.bin .quo (.bin .sub (.var 5) (.const (.int .i64 1))) (.const (.int .i64 2))))
   (.block 0
     (.loop [0, 3, 4, 5, 6]
       (.seq
        (.cond (.bin .geq (.var 6) (.const (.int .i64 0)))
          .skip
          (.exit 0))
       (.seq
        (.block 1
          (.call none 112 [(.var 0), (.var 6), (.var 5), (.var 3)] []))
       (.set 6 (.bin .sub (.var 6) (.const (.int .i64 1)))))))))
  (.seq
   (.set 7 (.bin .sub (.var 5) (.const (.int .i64 1))))
  (.block 2
    (.loop [0, 3, 4, 7]
      (.seq
       (.cond (.bin .geq (.var 7) (.const (.int .i64 0)))
         .skip
         (.exit 2))
      (.seq
       (.block 3
         (.seq
          (.seq
           .draw
          (.seq
           (.chk [(.ld none (.ixSl 1 (.var 0) (.bin .add (.var 3) (.var 7))))])
          (.seq
           (.set 8 (.ld none (.ixSl 1 (.var 0) (.var 3))))
          (.seq
           (.store 1 (.ixSl 1 (.var 0) (.var 3)) (.ld none (.ixSl 1 (.var 0) (.bin .add (.var 3) (.var 7)))) [])
          (.store 1 (.ixSl 1 (.var 0) (.bin .add (.var 3) (.var 7))) (.var 8) [])))))
         (.call none 112 [(.var 0), (.var 4), (.var 7), (.var 3)] [])))
      (.set 7 (.bin .sub (.var 7) (.const (.int .i64 1)))))))))))))
abbrev v_so64_heapSortOrdered : List Nat := [0, 1, 2, 6, 7, 8, 9, 10, 48]
abbrev k_so64_heapSortOrdered : List (List Nat) := [[0, 3, 4, 5, 6], [0, 3, 4, 7]]
abbrev r_so64_heapSortOrdered : List Ex := []
theorem ok_so64_heapSortOrdered : compile Tryz.prog Tryz.f73 v_so64_heapSortOrdered k_so64_heapSortOrdered = some (c_so64_heapSortOrdered, r_so64_heapSortOrdered) := by kernel_rfl

/- slices.breakPatternsOrdered[int] -/
def c_so64_breakPatternsOrdered : Cmd :=
  (.seq
   (.set 3 (.bin .sub (.var 2) (.var 1)))
  (.cond (.bin .geq (.var 3) (.const (.int .i64 8)))
    (.seq
     (.seq
      (.set 5 (.conv .u64 (.var 3)))
     (.seq
      (.new (some 4) 165 (.const (.int .u64 0)) [])
     (.store 1 (.var 4) (.var 5) [])))
    (.seq
     (.seq
      (.call (some 6) 107 [(.var 3)] [])
     (.set 7 (.var 6)))
    (.seq
     (.set 8 (.bin .sub (.bin .add (.var 1) (.bin .mul (.bin .quo (.var 3) (.const (.int .i64 4))) (.const (.int .i64 2)))) (.const (.int .i64 1))))
    (.block 0
      (.loop [0, 1, 3, 4, 7, 8]
        (.seq
         (.cond (.bin .leq (.var 8) (.bin .add (.bin .add (.var 1) (.bin .mul (.bin .quo (.var 3) (.const (.int .i64 4))) (.const (.int .i64 2)))) (.const (.int .i64 1))))
           .skip
           (.exit 0))
        (.seq
         (.block 1
           (.seq
            (.seq
             (.call (some 9) 108 [(.var 4)] [])
            (.set 10 (.conv .i64 (.bin .and (.var 9) (.bin .sub (.var 7) (.const (.int .u64 1)))))))
           (.seq
            (.cond (.bin .geq (.var 10) (.var 3))
              (.set 10 (.bin .sub (.var 10) (.var 3)))
              .skip)
           (.seq
            .draw
           (.seq
            (.chk [(.ld none (.ixSl 1 (.var 0) (.bin .add (.var 1) (.var 10))))])
           (.seq
            (.set 11 (.ld none (.ixSl 1 (.var 0) (.var 8))))
           (.seq
            (.store 1 (.ixSl 1 (.var 0) (.var 8)) (.ld none (.ixSl 1 (.var 0) (.bin .add (.var 1) (.var 10)))) [])
           (.store 1 (.ixSl 1 (.var 0) (.bin .add (.var 1) (.var 10))) (.var 11) []))))))))
        (.set 8 (.bin .add (.var 8) (.const (.int .i64 1)))))))))))
    .skip))
abbrev v_so64_breakPatternsOrdered : List Nat := [0, 1, 2, 6, 7, 17, 19, 8, 9, 36, 10, 62]
abbrev k_so64_breakPatternsOrdered : List (List Nat) := [[0, 1, 3, 4, 7, 8]]
abbrev r_so64_breakPatternsOrdered : List Ex := []
theorem ok_so64_breakPatternsOrdered : compile Tryz.prog Tryz.f74 v_so64_breakPatternsOrdered k_so64_breakPatternsOrdered = some (c_so64_breakPatternsOrdered, r_so64_breakPatternsOrdered) := by kernel_rfl

/- slices.choosePivotOrdered[int] -/
def c_so64_choosePivotOrdered : Cmd :=
  (.seq
   (.seq
    (.set 3 (.const (.int .i64 0)))
   (.set 4 (.const (.int .i64 0))))
  (.seq
   (.set 5 (.bin .sub (.var 2) (.var 1)))
  (.seq
   (.new (some 6) 3 (.const (.int .i64 0)) [])
  (.seq
   (.set 7 (.bin .add (.var 1) (.bin .mul (.bin .quo (.var 5) (.const (.int .i64 4))) (.const (.int .i64 1)))))
  (.seq
   (.set 8 (.bin .add (.var 1) (.bin .mul (.bin .quo (.var 5) (.const (.int .i64 4))) (.const (.int .i64 2)))))
  (.seq
   (.set 9 (.bin .add (.var 1) (.bin .mul (.bin .quo (.var 5) (.const (.int .i64 4))) (.const (.int .i64 3)))))
  (.seq
   (.cond (.bin .geq (.var 5) (.const (.int .i64 8)))
     (.seq
      (.cond (.bin .geq (.var 5) (.const (.int .i64 50)))
        (.seq
         (.seq
          (.call (some 10) 113 [(.var 0), (.var 7), (.var 6)] [])
         (.set 7 (.var 10)))
        (.seq
         (.seq
          (.call (some 11) 113 [(.var 0), (.var 8), (.var 6)] [])
         (.set 8 (.var 11)))
        (.seq
         (.call (some 12) 113 [(.var 0), (.var 9), (.var 6)] [])
        (.set 9 (.var 12)))))
        .skip)
     (.seq
      (.call (some 13) 114 [(.var 0), (.var 7), (.var 8), (.var 9), (.var 6)] [])
     (.set 8 (.var 13))))
     .skip)
  (.seq
   (.set 14 (.ld none (.var 6)))
  (.block 0
    (.seq
     (.set 15 (.bin .eql (.var 14) (.const (.int .i64 0))))
    (.cond (.var 15)
      (.seq
       (.seq
        (.set 3 (.var 8))
       (.set 4 (.const (.int .i64 1))))
      .ret)
      (.seq
       (.set 16 (.bin .eql (.var 14) (.const (.int .i64 12))))
      (.cond (.var 16)
        (.seq
         (.seq
          (.set 3 (.var 8))
         (.set 4 (.const (.int .i64 2))))
        .ret)
        (.seq
         (.seq
          (.set 3 (.var 8))
         (.set 4 (.const (.int .i64 0))))
        .ret))))))))))))))
abbrev v_so64_choosePivotOrdered : List Nat := [0, 1, 2, 6, 7, 8, 9, 10, 11, 12, 37, 40, 43, 48, 49, 51, 54]
abbrev k_so64_choosePivotOrdered : List (List Nat) := []
abbrev r_so64_choosePivotOrdered : List Ex := [(.var 3), (.var 4)]
theorem ok_so64_choosePivotOrdered : compile Tryz.prog Tryz.f75 v_so64_choosePivotOrdered k_so64_choosePivotOrdered = some (c_so64_choosePivotOrdered, r_so64_choosePivotOrdered) := by kernel_rfl

/- slices.reverseRangeOrdered[int] -/
def c_so64_reverseRangeOrdered : Cmd :=
  (.seq
   (.set 3 (.var 1))
  (.seq
   (.set 4 (.bin .sub (.var 2) (.const (.int .i64 1))))
  (.block 0
    (.loop [0, 3, 4]
      (.seq
       (.cond (.bin .lss (.var 3) (.var 4))
         .skip
         (.exit 0))
      (.block 1
        (.seq
         (.seq
          .draw
         (.seq
          (.chk [(.ld none (.ixSl 1 (.var 0) (.var 4)))])
         (.seq
          (.set 5 (.ld none (.ixSl 1 (.var 0) (.var 3))))
         (.seq
          (.store 1 (.ixSl 1 (.var 0) (.var 3)) (.ld none (.ixSl 1 (.var 0) (.var 4))) [])
         (.store 1 (.ixSl 1 (.var 0) (.var 4)) (.var 5) [])))))
        (.seq
         (.set 3 (.bin .add (.var 3) (.const (.int .i64 1))))
        (.set 4 (.bin .sub (.var 4) (.const (.int .i64 1))))))))))))
abbrev v_so64_reverseRangeOrdered : List Nat := [0, 1, 2, 6, 7, 25]
abbrev k_so64_reverseRangeOrdered : List (List Nat) := [[0, 3, 4]]
abbrev r_so64_reverseRangeOrdered : List Ex := []
theorem ok_so64_reverseRangeOrdered : compile Tryz.prog Tryz.f76 v_so64_reverseRangeOrdered k_so64_reverseRangeOrdered = some (c_so64_reverseRangeOrdered, r_so64_reverseRangeOrdered) := by kernel_rfl

/- slices.partialInsertionSortOrdered[int] -/
def c_so64_partialInsertionSortOrdered : Cmd :=
  (.seq
   (.set 3 (.const (.bool false)))
  (.seq
   (.set 4 (.bin .add (.var 1) (.const (.int .i64 1))))
  (.seq
   (.seq
    (.set 5 (.const (.int .i64 0)))
   (.block 0
     (.loop [0, 1, 2, 4, 5]
       (.seq
        (.cond (.bin .lss (.var 5) (.const (.int .i64 5)))
          .skip
          (.exit 0))
       (.seq
        (.block 1
          (.seq
           (.block 2
             (.loop [0, 1, 2, 4, 5]
               (.seq
                (.seq
                 (.seq
                  .draw
                 (.seq
                  (.chk [(.pick (.bin .lss (.var 4) (.var 2)) (.ld none (.ixSl 1 (.var 0) (.bin .sub (.var 4) (.const (.int .i64 1))))) (.const (.bool false))), (.pick (.bin .lss (.var 4) (.var 2)) (.ld none (.ixSl 1 (.var 0) (.var 4))) (.const (.bool false)))])
                 (.cond (.pick (.bin .lss (.var 4) (.var 2)) (.const (.bool true)) (.const (.bool false)))
                   (.call (some 6) 78 [(.ld none (.ixSl 1 (.var 0) (.var 4))), (.ld none (.ixSl 1 (.var 0) (.bin .sub (.var 4) (.const (.int .i64 1)))))] [])
                   (.clr [6]))))
                (.cond (.pick (.bin .lss (.var 4) (.var 2)) (.un .not (.var 6)) (.const (.bool false)))
                  .skip
                  (.exit 2)))
               (.block 3
                 (.set 4 (.bin .add (.var 4) (.const (.int .i64 1))))))))
          (.seq
           (.cond (.bin .eql (.var 4) (.var 2))
             (.seq
              (.set 3 (.const (.bool true)))
             .ret)
             .skip)
          (.seq
           (.cond (.bin .lss (.bin .sub (.var 2) (.var 1)) (.const (.int .i64 50)))
             (.seq
              (.set 3 (.const (.bool false)))
             .ret)
             .skip)
          (.seq
           (.seq
            .draw
           (.seq
            (.chk [(.ld none (.ixSl 1 (.var 0) (.bin .sub (.var 4) (.const (.int .i64 1)))))])
           (.seq
            (.set 7 (.ld none (.ixSl 1 (.var 0) (.var 4))))
           (.seq
            (.store 1 (.ixSl 1 (.var 0) (.var 4)) (.ld none (.ixSl 1 (.var 0) (.bin .sub (.var 4) (.const (.int .i64 1))))) [])
           (.store 1 (.ixSl 1 (.var 0) (.bin .sub (.var 4) (.const (.int .i64 1)))) (.var 7) [])))))
          (.seq
           (.cond (.bin .geq (.bin .sub (.var 4) (.var 1)) (.const (.int .i64 2)))
             (.seq
              (.set 8 (.bin .sub (.var 4) (.const (.int .i64 1))))
             (.block 4
               (.loop [0, 1, 2, 4, 5, 8]
                 (.seq
                  (.cond (.bin .geq (.var 8) (.const (.int .i64 1)))
                    .skip
                    (.exit 4))
                 (.seq
                  (.block 5
                    (.seq
                     (.seq
                      (.seq
                       .draw
                      (.call (some 9) 78 [(.ld none (.ixSl 1 (.var 0) (.var 8))), (.ld none (.ixSl 1 (.var 0) (.bin .sub (.var 8) (.const (.int .i64 1)))))] []))
                     (.cond (.un .not (.var 9))
                       (.exit 4)
                       .skip))
                    (.seq
                     .draw
                    (.seq
                     (.chk [(.ld none (.ixSl 1 (.var 0) (.bin .sub (.var 8) (.const (.int .i64 1)))))])
                    (.seq
                     (.set 10 (.ld none (.ixSl 1 (.var 0) (.var 8))))
                    (.seq
                     (.store 1 (.ixSl 1 (.var 0) (.var 8)) (.ld none (.ixSl 1 (.var 0) (.bin .sub (.var 8) (.const (.int .i64 1))))) [])
                    (.store 1 (.ixSl 1 (.var 0) (.bin .sub (.var 8) (.const (.int .i64 1)))) (.var 10) [])))))))
                 (.set 8 (.bin .sub (.var 8) (.const (.int .i64 1)))))))))
             .skip)
          (.cond (.bin .geq (.bin .sub (.var 2) (.var 4)) (.const (.int .i64 2)))
            (.seq
             (.set 11 (.bin .add (.var 4) (.const (.int .i64 1))))
            (.block 6
              (.loop [0, 1, 2, 4, 5, 11]
                (.seq
                 (.cond (.bin .lss (.var 11) (.var 2))
                   .skip
                   (.exit 6))
                (.seq
                 (.block 7
                   (.seq
                    (.seq
                     (.seq
                      .draw
                     (.call (some 12) 78 [(.ld none (.ixSl 1 (.var 0) (.var 11))), (.ld none (.ixSl 1 (.var 0) (.bin .sub (.var 11) (.const (.int .i64 1)))))] []))
                    (.cond (.un .not (.var 12))
                      (.exit 6)
                      .skip))
                   (.seq
                    .draw
                   (.seq
                    (.chk [(.ld none (.ixSl 1 (.var 0) (.bin .sub (.var 11) (.const (.int .i64 1)))))])
                   (.seq
                    (.set 13 (.ld none (.ixSl 1 (.var 0) (.var 11))))
                   (.seq
                    (.store 1 (.ixSl 1 (.var 0) (.var 11)) (.ld none (.ixSl 1 (.var 0) (.bin .sub (.var 11) (.const (.int .i64 1))))) [])
                   (.store 1 (.ixSl 1 (.var 0) (.bin .sub (.var 11) (.const (.int .i64 1)))) (.var 13) [])))))))
                (.set 11 (.bin .add (.var 11) (.const (.int .i64 1)))))))))
            .skip)))))))
       (.set 5 (.bin .add (.var 5) (.const (.int .i64 1)))))))))
  (.seq
   (.set 3 (.const (.bool false)))
  .ret))))
abbrev v_so64_partialInsertionSortOrdered : List Nat := [0, 1, 2, 6, 7, 8, 30, 55, 9, 77, 92, 10, 115, 130]
abbrev k_so64_partialInsertionSortOrdered : List (List Nat) := [[0, 1, 2, 4, 5], [0, 1, 2, 4, 5], [0, 1, 2, 4, 5, 8], [0, 1, 2, 4, 5, 11]]
abbrev r_so64_partialInsertionSortOrdered : List Ex := [(.var 3)]
theorem ok_so64_partialInsertionSortOrdered : compile Tryz.prog Tryz.f77 v_so64_partialInsertionSortOrdered k_so64_partialInsertionSortOrdered = some (c_so64_partialInsertionSortOrdered, r_so64_partialInsertionSortOrdered) := by kernel_rfl

/- cmp.Less[int] -/
def c_cmp64_Less : Cmd :=
  (.seq
   (.set 2 (.const (.bool false)))
  (.seq
   (.seq
    (.call (some 3) 115 [(.var 0)] [])
   (.seq
    (.chk [(.pick (.var 3) (.var 1) (.const (.bool false)))])
   (.seq
    (.cond (.pick (.var 3) (.const (.bool true)) (.const (.bool false)))
      (.call (some 4) 115 [(.var 1)] [])
      (.clr [4]))
   (.set 2 (.pick (.pick (.var 3) (.un .not (.var 4)) (.const (.bool false))) (.const (.bool true)) (.bin .lss (.var 0) (.var 1)))))))
  .ret))
abbrev v_cmp64_Less : List Nat := [0, 1, 4, 6, 9]
abbrev k_cmp64_Less : List (List Nat) := []
abbrev r_cmp64_Less : List Ex := [(.var 2)]
theorem ok_cmp64_Less : compile Tryz.prog Tryz.f78 v_cmp64_Less k_cmp64_Less = some (c_cmp64_Less, r_cmp64_Less) := by kernel_rfl

/- slices.partitionEqualOrdered[int] -/
def c_so64_partitionEqualOrdered : Cmd :=
  (.seq
   (.set 4 (.const (.int .i64 0)))
  (.seq
   (.seq
    .draw
   (.seq
    (.chk [(.ld none (.ixSl 1 (.var 0) (.var 3)))])
   (.seq
    (.set 5 (.ld none (.ixSl 1 (.var 0) (.var 1))))
   (.seq
    (.store 1 (.ixSl 1 (.var 0) (.var 1)) (.ld none (.ixSl 1 (.var 0) (.var 3))) [])
   (.store 1 (.ixSl 1 (.var 0) (.var 3)) (.var 5) [])))))
  (.seq
   (.seq
    (.chk [(.bin .sub (.var 2) (.const (.int .i64 1)))])
   (.seq
    (.set 6 (.bin .add (.var 1) (.const (.int .i64 1))))
   (.set 7 (.bin .sub (.var 2) (.const (.int .i64 1))))))
  (.seq
   (.block 0
     (.loop [0, 1, 6, 7]
       (.block 1
         (.seq
          (.block 2
            (.loop [0, 1, 6, 7]
              (.seq
               (.seq
                (.seq
                 .draw
                (.seq
                 (.chk [(.pick (.bin .leq (.var 6) (.var 7)) (.ld none (.ixSl 1 (.var 0) (.var 6))) (.const (.bool false))), (.pick (.bin .leq (.var 6) (.var 7)) (.ld none (.ixSl 1 (.var 0) (.var 1))) (.const (.bool false)))])
                (.cond (.pick (.bin .leq (.var 6) (.var 7)) (.const (.bool true)) (.const (.bool false)))
                  (.call (some 8) 78 [(.ld none (.ixSl 1 (.var 0) (.var 1))), (.ld none (.ixSl 1 (.var 0) (.var 6)))] [])
                  (.clr [8]))))
               (.cond (.pick (.bin .leq (.var 6) (.var 7)) (.un .not (.var 8)) (.const (.bool false)))
                 .skip
                 (.exit 2)))
              (.block 3
                (.set 6 (.bin .add (.var 6) (.const (.int .i64 1))))))))
         (.seq
          (.block 4
            (.loop [0, 1, 6, 7]
              (.seq
               (.seq
                (.seq
                 .draw
                (.seq
                 (.chk [(.pick (.bin .leq (.var 6) (.var 7)) (.ld none (.ixSl 1 (.var 0) (.var 7))) (.const (.bool false))), (.pick (.bin .leq (.var 6) (.var 7)) (.ld none (.ixSl 1 (.var 0) (.var 1))) (.const (.bool false)))])
                (.cond (.pick (.bin .leq (.var 6) (.var 7)) (.const (.bool true)) (.const (.bool false)))
                  (.call (some 9) 78 [(.ld none (.ixSl 1 (.var 0) (.var 1))), (.ld none (.ixSl 1 (.var 0) (.var 7)))] [])
                  (.clr [9]))))
               (.cond (.pick (.bin .leq (.var 6) (.var 7)) (.var 9) (.const (.bool false)))
                 .skip
                 (.exit 4)))
              (.block 5
                (.set 7 (.bin .sub (.var 7) (.const (.int .i64 1))))))))
         (.seq
          (.cond (.bin .gtr (.var 6) (.var 7))
            (.exit 0)
            .skip)
         (.seq
          (.seq
           .draw
          (.seq
           (.chk [(.ld none (.ixSl 1 (.var 0) (.var 7)))])
          (.seq
           (.set 10 (.ld none (.ixSl 1 (.var 0) (.var 6))))
          (.seq
           (.store 1 (.ixSl 1 (.var 0) (.var 6)) (.ld none (.ixSl 1 (.var 0) (.var 7))) [])
          (.store 1 (.ixSl 1 (.var 0) (.var 7)) (.var 10) [])))))
         (.seq
          (.set 6 (.bin .add (.var 6) (.const (.int .i64 1))))
         (.set 7 (.bin .sub (.var 7) (.const (.int .i64 1))))))))))))
  (.seq
   (.set 4 (.var 6))
  .ret)))))
abbrev v_so64_partitionEqualOrdered : List Nat := [0, 1, 2, 3, 8, 22, 9, 10, 41, 58, 76]
abbrev k_so64_partitionEqualOrdered : List (List Nat) := [[0, 1, 6, 7], [0, 1, 6, 7], [0, 1, 6, 7]]
abbrev r_so64_partitionEqualOrdered : List Ex := [(.var 4)]
theorem ok_so64_partitionEqualOrdered : compile Tryz.prog Tryz.f79 v_so64_partitionEqualOrdered k_so64_partitionEqualOrdered = some (c_so64_partitionEqualOrdered, r_so64_partitionEqualOrdered) := by kernel_rfl

/- slices.partitionOrdered[int] -/
def c_so64_partitionOrdered : Cmd :=
  (.seq
   (.seq
    (.set 4 (.const (.int .i64 0)))
   (.set 5 (.const (.bool false))))
  (.seq
   (.seq
    .draw
   (.seq
    (.chk [(.ld none (.ixSl 1 (.var 0) (.var 3)))])
   (.seq
    (.set 6 (.ld none (.ixSl 1 (.var 0) (.var 1))))
   (.seq
    (.store 1 (.ixSl 1 (.var 0) (.var 1)) (.ld none (.ixSl 1 (.var 0) (.var 3))) [])
   (.store 1 (.ixSl 1 (.var 0) (.var 3)) (.var 6) [])))))
  (.seq
   (.seq
    (.chk [(.bin .sub (.var 2) (.const (.int .i64 1)))])
   (.seq
    (.set 7 (.bin .add (.var 1) (.const (.int .i64 1))))
   (.set 8 (.bin .sub (.var 2) (.const (.int .i64 1))))))
  (.seq
   (.block 0
     (.loop [0, 1, 7, 8]
       (.seq
        (.seq
         (.seq
          .draw
         (.seq
          (.chk [(.pick (.bin .leq (.var 7) (.var 8)) (.ld none (.ixSl 1 (.var 0) (.var 1))) (.const (.bool false))), (.pick (.bin .leq (.var 7) (.var 8)) (.ld none (.ixSl 1 (.var 0) (.var 7))) (.const (.bool false)))])
         (.cond (.pick (.bin .leq (.var 7) (.var 8)) (.const (.bool true)) (.const (.bool false)))
           (.call (some 9) 78 [(.ld none (.ixSl 1 (.var 0) (.var 7))), (.ld none (.ixSl 1 (.var 0) (.var 1)))] [])
           (.clr [9]))))
        (.cond (.pick (.bin .leq (.var 7) (.var 8)) (.var 9) (.const (.bool false)))
          .skip
          (.exit 0)))
       (.block 1
         (.set 7 (.bin .add (.var 7) (.const (.int .i64 1))))))))
  (.seq
   (.block 2
     (.loop [0, 1, 7, 8]
       (.seq
        (.seq
         (.seq
          .draw
         (.seq
          (.chk [(.pick (.bin .leq (.var 7) (.var 8)) (.ld none (.ixSl 1 (.var 0) (.var 1))) (.const (.bool false))), (.pick (.bin .leq (.var 7) (.var 8)) (.ld none (.ixSl 1 (.var 0) (.var 8))) (.const (.bool false)))])
         (.cond (.pick (.bin .leq (.var 7) (.var 8)) (.const (.bool true)) (.const (.bool false)))
           (.call (some 10) 78 [(.ld none (.ixSl 1 (.var 0) (.var 8))), (.ld none (.ixSl 1 (.var 0) (.var 1)))] [])
           (.clr [10]))))
        (.cond (.pick (.bin .leq (.var 7) (.var 8)) (.un .not (.var 10)) (.const (.bool false)))
          .skip
          (.exit 2)))
       (.block 3
         (.set 8 (.bin .sub (.var 8) (.const (.int .i64 1))))))))
  (.seq
   (.cond (.bin .gtr (.var 7) (.var 8))
     (.seq
      (.seq
       .draw
      (.seq
       (.chk [(.ld none (.ixSl 1 (.var 0) (.var 1)))])
      (.seq
       (.set 11 (.ld none (.ixSl 1 (.var 0) (.var 8))))
      (.seq
       (.store 1 (.ixSl 1 (.var 0) (.var 8)) (.ld none (.ixSl 1 (.var 0) (.var 1))) [])
      (.store 1 (.ixSl 1 (.var 0) (.var 1)) (.var 11) [])))))
     (.seq
      (.seq
       (.set 4 (.var 8))
      (.set 5 (.const (.bool true))))
     .ret))
     .skip)
  (.seq
   (.seq
    .draw
   (.seq
    (.chk [(.ld none (.ixSl 1 (.var 0) (.var 8)))])
   (.seq
    (.set 12 (.ld none (.ixSl 1 (.var 0) (.var 7))))
   (.seq
    (.store 1 (.ixSl 1 (.var 0) (.var 7)) (.ld none (.ixSl 1 (.var 0) (.var 8))) [])
   (.store 1 (.ixSl 1 (.var 0) (.var 8)) (.var 12) [])))))
  (.seq
   (.set 7 (.bin .add (.var 7) (.const (.int .i64 1))))
  (.seq
   (.set 8 (.bin .sub (.var 8) (.const (.int .i64 1))))
  (.seq
   (.block 4
     (.loop [0, 1, 7, 8]
       (.block 5
         (.seq
          (.block 6
            (.loop [0, 1, 7, 8]
              (.seq
               (.seq
                (.seq
                 .draw
                (.seq
                 (.chk [(.pick (.bin .leq (.var 7) (.var 8)) (.ld none (.ixSl 1 (.var 0) (.var 1))) (.const (.bool false))), (.pick (.bin .leq (.var 7) (.var 8)) (.ld none (.ixSl 1 (.var 0) (.var 7))) (.const (.bool false)))])
                (.cond (.pick (.bin .leq (.var 7) (.var 8)) (.const (.bool true)) (.const (.bool false)))
                  (.call (some 13) 78 [(.ld none (.ixSl 1 (.var 0) (.var 7))), (.ld none (.ixSl 1 (.var 0) (.var 1)))] [])
                  (.clr [13]))))
               (.cond (.pick (.bin .leq (.var 7) (.var 8)) (.var 13) (.const (.bool false)))
                 .skip
                 (.exit 6)))
              (.block 7
                (.set 7 (.bin .add (.var 7) (.const (.int .i64 1))))))))
         (.seq
          (.block 8
            (.loop [0, 1, 7, 8]
              (.seq
               (.seq
                (.seq
                 .draw
                (.seq
                 (.chk [(.pick (.bin .leq (.var 7) (.var 8)) (.ld none (.ixSl 1 (.var 0) (.var 1))) (.const (.bool false))), (.pick (.bin .leq (.var 7) (.var 8)) (.ld none (.ixSl 1 (.var 0) (.var 8))) (.const (.bool false)))])
                (.cond (.pick (.bin .leq (.var 7) (.var 8)) (.const (.bool true)) (.const (.bool false)))
                  (.call (some 14) 78 [(.ld none (.ixSl 1 (.var 0) (.var 8))), (.ld none (.ixSl 1 (.var 0) (.var 1)))] [])
                  (.clr [14]))))
               (.cond (.pick (.bin .leq (.var 7) (.var 8)) (.un .not (.var 14)) (.const (.bool false)))
                 .skip
                 (.exit 8)))
              (.block 9
                (.set 8 (.bin .sub (.var 8) (.const (.int .i64 1))))))))
         (.seq
          (.cond (.bin .gtr (.var 7) (.var 8))
            (.exit 4)
            .skip)
         (.seq
          (.seq
           .draw
          (.seq
           (.chk [(.ld none (.ixSl 1 (.var 0) (.var 8)))])
          (.seq
           (.set 15 (.ld none (.ixSl 1 (.var 0) (.var 7))))
          (.seq
           (.store 1 (.ixSl 1 (.var 0) (.var 7)) (.ld none (.ixSl 1 (.var 0) (.var 8))) [])
          (.store 1 (.ixSl 1 (.var 0) (.var 8)) (.var 15) [])))))
         (.seq
          (.set 7 (.bin .add (.var 7) (.const (.int .i64 1))))
         (.set 8 (.bin .sub (.var 8) (.const (.int .i64 1))))))))))))
  (.seq
   (.seq
    .draw
   (.seq
    (.chk [(.ld none (.ixSl 1 (.var 0) (.var 1)))])
   (.seq
    (.set 16 (.ld none (.ixSl 1 (.var 0) (.var 8))))
   (.seq
    (.store 1 (.ixSl 1 (.var 0) (.var 8)) (.ld none (.ixSl 1 (.var 0) (.var 1))) [])
   (.store 1 (.ixSl 1 (.var 0) (.var 1)) (.var 16) [])))))
  (.seq
   (.seq
    (.set 4 (.var 8))
   (.set 5 (.const (.bool false))))
  .ret))))))))))))
abbrev v_so64_partitionOrdered : List Nat := [0, 1, 2, 3, 8, 9, 23, 10, 11, 42, 58, 77, 92, 111, 127, 146, 164]
abbrev k_so64_partitionOrdered : List (List Nat) := [[0, 1, 7, 8], [0, 1, 7, 8], [0, 1, 7, 8], [0, 1, 7, 8], [0, 1, 7, 8]]
abbrev r_so64_partitionOrdered : List Ex := [(.var 4), (.var 5)]
theorem ok_so64_partitionOrdered : compile Tryz.prog Tryz.f80 v_so64_partitionOrdered k_so64_partitionOrdered = some (c_so64_partitionOrdered, r_so64_partitionOrdered) := by kernel_rfl

/- slices.siftDownOrdered[int] -/
def c_so64_siftDownOrdered : Cmd :=
  (.seq
   (.set 4 (.var 1))
  (.block 0
    (.loop [0, 2, 3, 4]
      (.block 1
        (.seq
         (.set 5 (.bin .add (.bin .mul (.const (.int .i64 2)) (.var 4)) (.const (.int .i64 1))))
        (.seq
         (.cond (.bin .geq (.var 5) (.var 2))
           (.exit 0)
           .skip)
        (.seq
         (.seq
          (.seq
           .draw
          (.seq
           (.chk [(.pick (.bin .lss (.bin .add (.var 5) (.const (.int .i64 1))) (.var 2)) (.ld none (.ixSl 1 (.var 0) (.bin .add (.bin .add (.var 3) (.var 5)) (.const (.int .i64 1))))) (.const (.bool false))), (.pick (.bin .lss (.bin .add (.var 5) (.const (.int .i64 1))) (.var 2)) (.ld none (.ixSl 1 (.var 0) (.bin .add (.var 3) (.var 5)))) (.const (.bool false)))])
          (.cond (.pick (.bin .lss (.bin .add (.var 5) (.const (.int .i64 1))) (.var 2)) (.const (.bool true)) (.const (.bool false)))
            (.call (some 6) 78 [(.ld none (.ixSl 1 (.var 0) (.bin .add (.var 3) (.var 5)))), (.ld none (.ixSl 1 (.var 0) (.bin .add (.bin .add (.var 3) (.var 5)) (.const (.int .i64 1)))))] [])
            (.clr [6]))))
         (.cond (.pick (.bin .lss (.bin .add (.var 5) (.const (.int .i64 1))) (.var 2)) (.var 6) (.const (.bool false)))
           (.set 5 (.bin .add (.var 5) (.const (.int .i64 1))))
           .skip))
        (.seq
         (.seq
          (.seq
           .draw
          (.call (some 7) 78 [(.ld none (.ixSl 1 (.var 0) (.bin .add (.var 3) (.var 4)))), (.ld none (.ixSl 1 (.var 0) (.bin .add (.var 3) (.var 5))))] []))
         (.cond (.un .not (.var 7))
           .ret
           .skip))
        (.seq
         (.seq
          .draw
         (.seq
          (.chk [(.ld none (.ixSl 1 (.var 0) (.bin .add (.var 3) (.var 5))))])
         (.seq
          (.set 8 (.ld none (.ixSl 1 (.var 0) (.bin .add (.var 3) (.var 4)))))
         (.seq
          (.store 1 (.ixSl 1 (.var 0) (.bin .add (.var 3) (.var 4))) (.ld none (.ixSl 1 (.var 0) (.bin .add (.var 3) (.var 5)))) [])
         (.store 1 (.ixSl 1 (.var 0) (.bin .add (.var 3) (.var 5))) (.var 8) [])))))
        (.set 4 (.var 5)))))))))))
abbrev v_so64_siftDownOrdered : List Nat := [0, 1, 2, 3, 8, 9, 35, 51, 72]
abbrev k_so64_siftDownOrdered : List (List Nat) := [[0, 2, 3, 4]]
abbrev r_so64_siftDownOrdered : List Ex := []
theorem ok_so64_siftDownOrdered : compile Tryz.prog Tryz.f112 v_so64_siftDownOrdered k_so64_siftDownOrdered = some (c_so64_siftDownOrdered, r_so64_siftDownOrdered) := by kernel_rfl

/- slices.medianAdjacentOrdered[int] -/
def c_so64_medianAdjacentOrdered : Cmd :=
  (.seq
   (.set 3 (.const (.int .i64 0)))
  (.seq
   (.seq
    (.call (some 4) 114 [(.var 0), (.bin .sub (.var 1) (.const (.int .i64 1))), (.var 1), (.bin .add (.var 1) (.const (.int .i64 1))), (.var 2)] [])
   (.set 3 (.var 4)))
  .ret))
abbrev v_so64_medianAdjacentOrdered : List Nat := [0, 1, 2, 6, 14]
abbrev k_so64_medianAdjacentOrdered : List (List Nat) := []
abbrev r_so64_medianAdjacentOrdered : List Ex := [(.var 3)]
theorem ok_so64_medianAdjacentOrdered : compile Tryz.prog Tryz.f113 v_so64_medianAdjacentOrdered k_so64_medianAdjacentOrdered = some (c_so64_medianAdjacentOrdered, r_so64_medianAdjacentOrdered) := by kernel_rfl

/- slices.medianOrdered[int] -/
def c_so64_medianOrdered : Cmd :=
  (.seq
   (.set 5 (.const (.int .i64 0)))
  (.seq
   (.seq
    (.call (some 6) 136 [(.var 0), (.var 1), (.var 2), (.var 4)] [])
   (.seq
    (.chk [(.proj 1 (.var 6))])
   (.seq
    (.set 1 (.proj 0 (.var 6)))
   (.set 2 (.proj 1 (.var 6))))))
  (.seq
   (.seq
    (.call (some 7) 136 [(.var 0), (.var 2), (.var 3), (.var 4)] [])
   (.seq
    (.chk [(.proj 1 (.var 7))])
   (.seq
    (.set 2 (.proj 0 (.var 7)))
   (.set 3 (.proj 1 (.var 7))))))
  (.seq
   (.seq
    (.call (some 8) 136 [(.var 0), (.var 1), (.var 2), (.var 4)] [])
   (.seq
    (.chk [(.proj 1 (.var 8))])
   (.seq
    (.set 1 (.proj 0 (.var 8)))
   (.set 2 (.proj 1 (.var 8))))))
  (.seq
   (.set 5 (.var 2))
  .ret)))))
abbrev v_so64_medianOrdered : List Nat := [0, 1, 2, 3, 4, 10, 16, 24, 32]
abbrev k_so64_medianOrdered : List (List Nat) := []
abbrev r_so64_medianOrdered : List Ex := [(.var 5)]
theorem ok_so64_medianOrdered : compile Tryz.prog Tryz.f114 v_so64_medianOrdered k_so64_medianOrdered = some (c_so64_medianOrdered, r_so64_medianOrdered) := by kernel_rfl

/- cmp.isNaN[int] -/
def c_cmp64_isNaN : Cmd :=
  (.seq
   (.set 1 (.const (.bool false)))
  (.seq
   (.set 1 (.bin .neq (.var 0) (.var 0)))
  .ret))
abbrev v_cmp64_isNaN : List Nat := [0, 2]
abbrev k_cmp64_isNaN : List (List Nat) := []
abbrev r_cmp64_isNaN : List Ex := [(.var 1)]
theorem ok_cmp64_isNaN : compile Tryz.prog Tryz.f115 v_cmp64_isNaN k_cmp64_isNaN = some (c_cmp64_isNaN, r_cmp64_isNaN) := by kernel_rfl

/- slices.order2Ordered[int] -/
def c_so64_order2Ordered : Cmd :=
  (.seq
   (.seq
    (.set 4 (.const (.int .i64 0)))
   (.set 5 (.const (.int .i64 0))))
  (.seq
   (.seq
    (.seq
     .draw
    (.call (some 6) 78 [(.ld none (.ixSl 1 (.var 0) (.var 2))), (.ld none (.ixSl 1 (.var 0) (.var 1)))] []))
   (.cond (.var 6)
     (.seq
      (.store 1 (.nn (.var 3)) (.bin .add (.ld none (.nn (.var 3))) (.const (.int .i64 1))) [])
     (.seq
      (.seq
       (.chk [(.var 1)])
      (.seq
       (.set 4 (.var 2))
      (.set 5 (.var 1))))
     .ret))
     .skip))
  (.seq
   (.seq
    (.chk [(.var 2)])
   (.seq
    (.set 4 (.var 1))
   (.set 5 (.var 2))))
  .ret)))
abbrev v_so64_order2Ordered : List Nat := [0, 1, 2, 3, 8, 9, 18]
abbrev k_so64_order2Ordered : List (List Nat) := []
abbrev r_so64_order2Ordered : List Ex := [(.var 4), (.var 5)]
theorem ok_so64_order2Ordered : compile Tryz.prog Tryz.f136 v_so64_order2Ordered k_so64_order2Ordered = some (c_so64_order2Ordered, r_so64_order2Ordered) := by kernel_rfl
end Go.Proofs.YtkgpmjjleemdlaaGreat
namespace Go.Proofs.YtkgpmjjleemdlaaGreat
open Go.Eng
end Go.Proofs.YtkgpmjjleemdlaaGreat
