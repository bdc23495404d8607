/- Commands of functions, and that they are what the code comes to. -/
import Derived.Test.YtmfgdbapankamaaGreatGr4
import Derived.Test.YtmfgdbapankamaaGreatRows
import Derived.Test.YtmfgdbapankamaaGreatGr5
namespace Go.Proofs.YtmfgdbapankamaaGreat
open Go.Eng
def c_region_Memory_Save : Cmd := (.seq (.seq (.new (some 6) 68 (.var 1) []) (.seq (.new (some 7) 68 (.var 4) []) (.set 5 (.const (.int .i64 0))))) (.seq (.seq (.call (some 8) 79 [(.var 3)] []) (.cond (.pick (.pick (.un .not (.var 8)) (.const (.bool true)) (.bin .leq (.ld none (.offp 0 (.var 7))) (.const (.int .i64 0)))) (.const (.bool true)) (.bin .gtr (.ld none (.offp 0 (.var 7))) (.const (.int .i64 5)))) (.seq (.set 5 (.const (.int .i64 14))) .ret) .skip)) (.seq (.seq (.call (some 9) 80 [(.var 0), (.ld (some 4) (.var 6)), (.var 2), (.var 3)] []) (.seq (.chk [(.proj 2 (.var 9)), (.proj 1 (.var 9))]) (.seq (.set 10 (.proj 0 (.var 9))) (.seq (.set 11 (.proj 1 (.var 9))) (.set 12 (.proj 2 (.var 9))))))) (.seq (.seq (.seq (.chk [(.pick (.un .not (.var 12)) (.const (.bool false)) (.ld (some 4) (.var 6))), (.pick (.un .not (.var 12)) (.const (.bool false)) (.var 0))]) (.cond (.pick (.un .not (.var 12)) (.const (.bool false)) (.const (.bool true))) (.call (some 13) 84 [(.var 0), (.ld (some 4) (.var 6))] []) (.clr [13]))) (.cond (.pick (.un .not (.var 12)) (.const (.bool true)) (.un .not (.var 13))) (.seq (.set 5 (.const (.int .i64 14))) .ret) .skip)) (.seq (.cond (.bin .eql (.ld none (.offp 0 (.var 7))) (.const (.int .i64 1))) (.seq (.call none 85 [(.var 0), (.ld (some 4) (.var 6)), (.var 10), (.var 11), (.ld none (.offp 1 (.var 7)))] []) (.seq (.set 5 (.const (.int .i64 0))) .ret)) .skip) (.seq (.seq (.call (some 14) 81 [(.ld (some 4) (.var 6)), (.var 11), (.var 3)] []) (.cond (.un .not (.var 14)) (.seq (.set 5 (.const (.int .i64 14))) .ret) .skip)) (.seq (.call none 86 [(.var 0), (.var 11), (.var 3)] []) (.seq (.seq .draw (.store 4 (.ixArr 8 4 (.offp 160 (.nn (.var 0))) (.bin .quo (.var 11) (.const (.int .i64 8)))) (.ld (some 4) (.var 7)) [])) (.seq (.set 5 (.const (.int .i64 0))) .ret)))))))))
abbrev v_region_Memory_Save : List Nat := [0, 1, 2, 3, 4, 10, 6, 9, 15, 32, 11, 12, 13, 41, 57]
abbrev k_region_Memory_Save : List (List Nat) := []
abbrev r_region_Memory_Save : List Ex := [(.var 5)]
theorem ok_region_Memory_Save : compile Tryz.prog Tryz.f64 v_region_Memory_Save k_region_Memory_Save = some (c_region_Memory_Save, r_region_Memory_Save) := by kernel_rfl
def c_region_Memory_Load : Cmd := (.seq (.seq (.new (some 6) 68 (.var 1) []) (.seq (.new (some 4) 68 (.const (.agg #[(.int .i64 0), (.int .u64 0), (.int .i64 0), (.pointer none)])) []) (.set 5 (.const (.int .i64 0))))) (.seq (.seq (.call (some 7) 79 [(.var 3)] []) (.cond (.un .not (.var 7)) (.seq (.seq (.store 4 (.var 4) (.const (.agg #[(.int .i64 0), (.int .u64 0), (.int .i64 0), (.pointer none)])) []) (.set 5 (.const (.int .i64 14)))) .ret) .skip)) (.seq (.seq (.call (some 8) 80 [(.var 0), (.ld (some 4) (.var 6)), (.var 2), (.var 3)] []) (.seq (.chk [(.proj 2 (.var 8)), (.proj 1 (.var 8))]) (.seq (.set 9 (.proj 0 (.var 8))) (.seq (.set 10 (.proj 1 (.var 8))) (.set 11 (.proj 2 (.var 8))))))) (.seq (.cond (.un .not (.var 11)) (.seq (.seq (.store 4 (.var 4) (.const (.agg #[(.int .i64 0), (.int .u64 0), (.int .i64 0), (.pointer none)])) []) (.set 5 (.const (.int .i64 14)))) .ret) .skip) (.seq (.seq (.call (some 12) 81 [(.ld (some 4) (.var 6)), (.var 10), (.var 3)] []) (.cond (.pick (.var 12) (.bin .neq (.ld none (.offp 0 (.ixArr 8 4 (.offp 160 (.nn (.var 0))) (.bin .quo (.var 10) (.const (.int .i64 8)))))) (.const (.int .i64 0))) (.const (.bool false))) (.seq (.seq (.store 4 (.var 4) (.ld (some 4) (.ixArr 8 4 (.offp 160 (.nn (.var 0))) (.bin .quo (.var 10) (.const (.int .i64 8))))) []) (.set 5 (.const (.int .i64 0)))) .ret) .skip)) (.seq (.seq (.seq (.set 14 (.bin .eql (.ld none (.offp 0 (.var 6))) (.const (.int .i64 3)))) (.seq (.chk [(.pick (.var 14) (.var 3) (.const (.bool false))), (.pick (.var 14) (.var 10) (.const (.bool false))), (.pick (.var 14) (.var 0) (.const (.bool false)))]) (.cond (.pick (.var 14) (.const (.bool true)) (.const (.bool false))) (.call (some 13) 82 [(.var 0), (.var 10), (.var 3)] []) (.clr [13])))) (.cond (.pick (.var 14) (.un .not (.var 13)) (.const (.bool false))) (.seq (.seq (.store 4 (.var 4) (.const (.agg #[(.int .i64 0), (.int .u64 0), (.int .i64 0), (.pointer none)])) []) (.set 5 (.const (.int .i64 14)))) .ret) .skip)) (.seq (.seq (.call (some 15) 83 [(.var 9)] []) (.seq (.chk [(.upd 1 1 (.upd 0 1 (.const (.agg #[(.int .i64 0), (.int .u64 0), (.int .i64 0), (.pointer none)])) (.const (.int .i64 1))) (.var 15))]) (.seq (.store 4 (.var 4) (.upd 1 1 (.upd 0 1 (.const (.agg #[(.int .i64 0), (.int .u64 0), (.int .i64 0), (.pointer none)])) (.const (.int .i64 1))) (.var 15)) []) (.set 5 (.const (.int .i64 0)))))) .ret)))))))
abbrev v_region_Memory_Load : List Nat := [0, 1, 2, 3, 8, 9, 5, 14, 22, 10, 11, 12, 32, 58, 54, 63]
abbrev k_region_Memory_Load : List (List Nat) := []
abbrev r_region_Memory_Load : List Ex := [(.ld (some 4) (.var 4)), (.var 5)]
theorem ok_region_Memory_Load : compile Tryz.prog Tryz.f63 v_region_Memory_Load k_region_Memory_Load = some (c_region_Memory_Load, r_region_Memory_Load) := by kernel_rfl
def c_region_Memory_Bytes : Cmd := (.seq (.seq (.new (some 5) 68 (.var 1) []) (.seq (.set 3 (.const (.slice none 0 0))) (.set 4 (.const (.int .i64 0))))) (.seq (.seq (.call (some 6) 80 [(.var 0), (.ld (some 4) (.var 5)), (.const (.int .i64 0)), (.mx (.var 2) (.const (.int .i64 0)))] []) (.seq (.chk [(.proj 2 (.var 6)), (.proj 1 (.var 6))]) (.seq (.set 7 (.proj 0 (.var 6))) (.seq (.set 8 (.proj 1 (.var 6))) (.set 9 (.proj 2 (.var 6))))))) (.seq (.seq (.seq (.chk [(.pick (.pick (.pick (.un .not (.var 9)) (.const (.bool true)) (.bin .lss (.var 2) (.const (.int .i64 0)))) (.const (.bool true)) (.bin .gtr (.var 2) (.const (.int .i64 64)))) (.const (.bool false)) (.bin .eql (.ld none (.offp 0 (.var 5))) (.const (.int .i64 3))))]) (.seq (.cond (.pick (.pick (.pick (.un .not (.var 9)) (.const (.bool true)) (.bin .lss (.var 2) (.const (.int .i64 0)))) (.const (.bool true)) (.bin .gtr (.var 2) (.const (.int .i64 64)))) (.const (.bool false)) (.const (.bool true))) (.set 11 (.bin .eql (.ld none (.offp 0 (.var 5))) (.const (.int .i64 3)))) (.clr [11])) (.seq (.chk [(.pick (.pick (.pick (.un .not (.var 9)) (.const (.bool true)) (.bin .lss (.var 2) (.const (.int .i64 0)))) (.const (.bool true)) (.bin .gtr (.var 2) (.const (.int .i64 64)))) (.const (.bool false)) (.pick (.var 11) (.var 2) (.const (.bool false)))), (.pick (.pick (.pick (.un .not (.var 9)) (.const (.bool true)) (.bin .lss (.var 2) (.const (.int .i64 0)))) (.const (.bool true)) (.bin .gtr (.var 2) (.const (.int .i64 64)))) (.const (.bool false)) (.pick (.var 11) (.var 8) (.const (.bool false)))), (.pick (.pick (.pick (.un .not (.var 9)) (.const (.bool true)) (.bin .lss (.var 2) (.const (.int .i64 0)))) (.const (.bool true)) (.bin .gtr (.var 2) (.const (.int .i64 64)))) (.const (.bool false)) (.pick (.var 11) (.var 0) (.const (.bool false))))]) (.cond (.pick (.pick (.pick (.un .not (.var 9)) (.const (.bool true)) (.bin .lss (.var 2) (.const (.int .i64 0)))) (.const (.bool true)) (.bin .gtr (.var 2) (.const (.int .i64 64)))) (.const (.bool false)) (.pick (.var 11) (.const (.bool true)) (.const (.bool false)))) (.call (some 10) 82 [(.var 0), (.var 8), (.var 2)] []) (.clr [10]))))) (.cond (.pick (.pick (.pick (.un .not (.var 9)) (.const (.bool true)) (.bin .lss (.var 2) (.const (.int .i64 0)))) (.const (.bool true)) (.bin .gtr (.var 2) (.const (.int .i64 64)))) (.const (.bool true)) (.pick (.var 11) (.un .not (.var 10)) (.const (.bool false)))) (.seq (.seq (.set 3 (.const (.slice none 0 0))) (.set 4 (.const (.int .i64 14)))) .ret) .skip)) (.seq (.seq (.row (some 12) 5 0 (.const (.agg #[])) []) (.seq (.bi (some 13) .append [51, 51] 51 [(.var 12), (.var 7)] []) (.seq (.set 3 (.var 13)) (.set 4 (.const (.int .i64 0)))))) .ret))))
abbrev v_region_Memory_Bytes : List Nat := [0, 1, 2, 6, 7, 4, 16, 8, 9, 10, 38, 34, 42, 44]
abbrev k_region_Memory_Bytes : List (List Nat) := []
abbrev r_region_Memory_Bytes : List Ex := [(.var 3), (.var 4)]
theorem ok_region_Memory_Bytes : compile Tryz.prog Tryz.f99 v_region_Memory_Bytes k_region_Memory_Bytes = some (c_region_Memory_Bytes, r_region_Memory_Bytes) := by kernel_rfl
def c_region_Memory_Fill : Cmd := (.seq (.seq (.new (some 4) 68 (.var 1) []) (.set 3 (.const (.int .i64 0)))) (.seq (.seq (.call (some 5) 80 [(.var 0), (.ld (some 4) (.var 4)), (.const (.int .i64 0)), (.len false (.var 2))] []) (.seq (.chk [(.proj 2 (.var 5)), (.proj 1 (.var 5))]) (.seq (.set 6 (.proj 0 (.var 5))) (.seq (.set 7 (.proj 1 (.var 5))) (.set 8 (.proj 2 (.var 5))))))) (.seq (.seq (.seq (.chk [(.pick (.pick (.un .not (.var 8)) (.const (.bool true)) (.bin .gtr (.len false (.var 2)) (.const (.int .i64 64)))) (.const (.bool false)) (.ld (some 4) (.var 4))), (.pick (.pick (.un .not (.var 8)) (.const (.bool true)) (.bin .gtr (.len false (.var 2)) (.const (.int .i64 64)))) (.const (.bool false)) (.var 0))]) (.cond (.pick (.pick (.un .not (.var 8)) (.const (.bool true)) (.bin .gtr (.len false (.var 2)) (.const (.int .i64 64)))) (.const (.bool false)) (.const (.bool true))) (.call (some 9) 84 [(.var 0), (.ld (some 4) (.var 4))] []) (.clr [9]))) (.cond (.pick (.pick (.un .not (.var 8)) (.const (.bool true)) (.bin .gtr (.len false (.var 2)) (.const (.int .i64 64)))) (.const (.bool true)) (.un .not (.var 9))) (.seq (.set 3 (.const (.int .i64 14))) .ret) .skip)) (.seq (.bi none .copy [51, 51] 3 [(.var 6), (.var 2)] []) (.seq (.cond (.bin .eql (.ld none (.offp 0 (.var 4))) (.const (.int .i64 3))) (.call none 86 [(.var 0), (.var 7), (.len false (.var 2))] []) .skip) (.seq (.set 3 (.const (.int .i64 0))) .ret))))))
abbrev v_region_Memory_Fill : List Nat := [0, 1, 2, 6, 4, 15, 7, 8, 9, 29]
abbrev k_region_Memory_Fill : List (List Nat) := []
abbrev r_region_Memory_Fill : List Ex := [(.var 3)]
theorem ok_region_Memory_Fill : compile Tryz.prog Tryz.f94 v_region_Memory_Fill k_region_Memory_Fill = some (c_region_Memory_Fill, r_region_Memory_Fill) := by kernel_rfl
def c_region_Memory_Map : Cmd := (.seq (.set 2 (.const (.pointer none))) (.seq (.cond (.pick (.pick (.isnil 0 false (.var 0)) (.const (.bool true)) (.bin .lss (.var 1) (.const (.int .i64 0)))) (.const (.bool true)) (.bin .geq (.var 1) (.len false (.ld none (.offp 192 (.nn (.var 0))))))) (.seq (.set 2 (.const (.pointer none))) .ret) .skip) (.seq (.set 2 (.ld none (.ixSl 1 (.ld none (.offp 192 (.nn (.var 0)))) (.var 1)))) .ret)))
abbrev v_region_Memory_Map : List Nat := [0, 1, 4]
abbrev k_region_Memory_Map : List (List Nat) := []
abbrev r_region_Memory_Map : List Ex := [(.var 2)]
theorem ok_region_Memory_Map : compile Tryz.prog Tryz.f65 v_region_Memory_Map k_region_Memory_Map = some (c_region_Memory_Map, r_region_Memory_Map) := by kernel_rfl
def c_region_sized : Cmd := (.seq (.set 1 (.const (.bool false))) (.seq (.set 1 (.pick (.pick (.pick (.bin .eql (.var 0) (.const (.int .i64 1))) (.const (.bool true)) (.bin .eql (.var 0) (.const (.int .i64 2)))) (.const (.bool true)) (.bin .eql (.var 0) (.const (.int .i64 4)))) (.const (.bool true)) (.bin .eql (.var 0) (.const (.int .i64 8))))) .ret))
abbrev v_region_sized : List Nat := [0, 2]
abbrev k_region_sized : List (List Nat) := []
abbrev r_region_sized : List Ex := [(.var 1)]
theorem ok_region_sized : compile Tryz.prog Tryz.f79 v_region_sized k_region_sized = some (c_region_sized, r_region_sized) := by kernel_rfl
def c_region_Memory_view : Cmd := (.seq (.seq (.new (some 7) 68 (.var 1) []) (.seq (.set 4 (.const (.slice none 0 0))) (.seq (.set 5 (.const (.int .i64 0))) (.set 6 (.const (.bool false)))))) (.seq (.cond (.isnil 0 false (.var 0)) (.seq (.seq (.set 4 (.const (.slice none 0 0))) (.seq (.set 5 (.const (.int .i64 0))) (.set 6 (.const (.bool false))))) .ret) .skip) (.seq (.seq (.call (some 8) 97 [(.var 0), (.ld (some 4) (.var 7))] []) (.seq (.chk [(.proj 1 (.var 8))]) (.seq (.set 9 (.proj 0 (.var 8))) (.set 10 (.proj 1 (.var 8)))))) (.seq (.seq (.call (some 11) 98 [(.conv .i64 (.ld none (.offp 1 (.var 7)))), (.var 2)] []) (.seq (.chk [(.proj 1 (.var 11))]) (.seq (.set 12 (.proj 0 (.var 11))) (.set 13 (.proj 1 (.var 11)))))) (.seq (.cond (.pick (.pick (.pick (.isnil 1 false (.var 9)) (.const (.bool true)) (.un .not (.var 13))) (.const (.bool true)) (.bin .lss (.var 12) (.un .neg (.var 10)))) (.const (.bool true)) (.bin .gtr (.var 12) (.bin .sub (.bin .sub (.len false (.var 9)) (.var 10)) (.var 3)))) (.seq (.seq (.set 4 (.const (.slice none 0 0))) (.seq (.set 5 (.const (.int .i64 0))) (.set 6 (.const (.bool false))))) .ret) .skip) (.seq (.set 14 (.bin .add (.var 12) (.var 10))) (.seq (.seq (.set 4 (.slSl 1 (.var 9) (.var 14) (.bin .add (.var 14) (.var 3)))) (.seq (.set 5 (.var 14)) (.set 6 (.const (.bool true))))) .ret)))))))
abbrev v_region_Memory_view : List Nat := [0, 1, 2, 3, 8, 9, 10, 5, 21, 11, 12, 29, 13, 14, 15]
abbrev k_region_Memory_view : List (List Nat) := []
abbrev r_region_Memory_view : List Ex := [(.var 4), (.var 5), (.var 6)]
theorem ok_region_Memory_view : compile Tryz.prog Tryz.f80 v_region_Memory_view k_region_Memory_view = some (c_region_Memory_view, r_region_Memory_view) := by kernel_rfl
def c_region_Memory_writes : Cmd := (.seq (.seq (.new (some 3) 68 (.var 1) []) (.set 2 (.const (.bool false)))) (.seq (.cond (.bin .eql (.ld none (.offp 0 (.var 3))) (.const (.int .i64 5))) (.seq (.seq (.call (some 4) 65 [(.var 0), (.ld none (.offp 2 (.var 3)))] []) (.set 5 (.var 4))) (.seq (.seq (.chk [(.pick (.isnil 0 true (.var 5)) (.var 5) (.const (.bool false)))]) (.seq (.cond (.pick (.isnil 0 true (.var 5)) (.const (.bool true)) (.const (.bool false))) (.call (some 6) 91 [(.var 5)] []) (.clr [6])) (.set 2 (.pick (.isnil 0 true (.var 5)) (.un .not (.var 6)) (.const (.bool false)))))) .ret)) .skip) (.seq (.set 2 (.bin .eql (.ld none (.offp 0 (.var 3))) (.const (.int .i64 3)))) .ret)))
abbrev v_region_Memory_writes : List Nat := [0, 1, 4, 3, 12, 5, 17]
abbrev k_region_Memory_writes : List (List Nat) := []
abbrev r_region_Memory_writes : List Ex := [(.var 2)]
theorem ok_region_Memory_writes : compile Tryz.prog Tryz.f84 v_region_Memory_writes k_region_Memory_writes = some (c_region_Memory_writes, r_region_Memory_writes) := by kernel_rfl
def c_region_Memory_number : Cmd := (.seq (.new (some 5) 68 (.var 1) []) (.seq (.seq (.seq (.set 7 (.len false (.var 2))) (.set 6 (.const (.int .i64 0)))) (.block 0 (.loop [0, 2, 3, 4, 5, 6, 7] (.seq (.cond (.bin .lss (.var 6) (.var 7)) .skip (.exit 0)) (.seq (.block 1 (.seq (.set 8 (.var 6)) (.store 1 (.ixSl 1 (.var 2) (.var 8)) (.conv .u8 (.bin .shr (.var 4) (.bin .mul (.const (.int .i64 8)) (.var 8)))) []))) (.set 6 (.bin .add (.var 6) (.const (.int .i64 1))))))))) (.cond (.bin .eql (.ld none (.offp 0 (.var 5))) (.const (.int .i64 3))) (.call none 86 [(.var 0), (.var 3), (.len false (.var 2))] []) .skip)))
abbrev v_region_Memory_number : List Nat := [0, 1, 2, 3, 4, 6, 13, 12, 10]
abbrev k_region_Memory_number : List (List Nat) := [[0, 2, 3, 4, 5, 6, 7]]
abbrev r_region_Memory_number : List Ex := []
theorem ok_region_Memory_number : compile Tryz.prog Tryz.f85 v_region_Memory_number k_region_Memory_number = some (c_region_Memory_number, r_region_Memory_number) := by kernel_rfl
def c_region_exact : Cmd := (.seq (.seq (.new (some 4) 68 (.var 0) []) (.set 3 (.const (.bool false)))) (.seq (.set 3 (.pick (.pick (.bin .eql (.ld none (.offp 0 (.var 4))) (.const (.int .i64 3))) (.bin .eql (.var 2) (.const (.int .i64 8))) (.const (.bool false))) (.bin .eql (.bin .rem (.var 1) (.const (.int .i64 8))) (.const (.int .i64 0))) (.const (.bool false)))) .ret))
abbrev v_region_exact : List Nat := [0, 1, 2, 6, 3]
abbrev k_region_exact : List (List Nat) := []
abbrev r_region_exact : List Ex := [(.var 3)]
theorem ok_region_exact : compile Tryz.prog Tryz.f81 v_region_exact k_region_exact = some (c_region_exact, r_region_exact) := by kernel_rfl
def c_region_Memory_mark : Cmd := (.seq (.seq (.set 3 (.var 1)) (.block 0 (.loop [0, 1, 2, 3] (.seq (.cond (.bin .lss (.var 3) (.bin .add (.var 1) (.var 2))) .skip (.exit 0)) (.seq (.block 1 (.seq (.set 4 (.bin .quo (.var 3) (.const (.int .i64 8)))) (.cond (.bin .neq (.ld none (.offp 0 (.ixArr 8 4 (.offp 160 (.nn (.var 0))) (.var 4)))) (.const (.int .i64 0))) (.seq (.store 4 (.ixArr 8 4 (.offp 160 (.nn (.var 0))) (.var 4)) (.const (.agg #[(.int .i64 0), (.int .u64 0), (.int .i64 0), (.pointer none)])) []) (.seq (.set 5 (.const (.int .i64 0))) (.block 2 (.loop [0, 1, 2, 3, 4, 5] (.seq (.cond (.bin .lss (.var 5) (.const (.int .i64 8))) .skip (.exit 2)) (.seq (.block 3 (.seq (.set 6 (.var 5)) (.store 1 (.ixArr 64 1 (.offp 96 (.nn (.var 0))) (.bin .add (.bin .mul (.var 4) (.const (.int .i64 8))) (.var 6))) (.const (.bool false)) []))) (.set 5 (.bin .add (.var 5) (.const (.int .i64 1)))))))))) .skip))) (.set 3 (.bin .add (.var 3) (.const (.int .i64 1))))))))) (.seq (.set 7 (.var 1)) (.block 4 (.loop [0, 1, 2, 7] (.seq (.cond (.bin .lss (.var 7) (.bin .add (.var 1) (.var 2))) .skip (.exit 4)) (.seq (.block 5 (.store 1 (.ixArr 64 1 (.offp 96 (.nn (.var 0))) (.var 7)) (.const (.bool true)) [])) (.set 7 (.bin .add (.var 7) (.const (.int .i64 1))))))))))
abbrev v_region_Memory_mark : List Nat := [0, 1, 2, 6, 7, 34, 8, 9]
abbrev k_region_Memory_mark : List (List Nat) := [[0, 1, 2, 3], [0, 1, 2, 3, 4, 5], [0, 1, 2, 7]]
abbrev r_region_Memory_mark : List Ex := []
theorem ok_region_Memory_mark : compile Tryz.prog Tryz.f86 v_region_Memory_mark k_region_Memory_mark = some (c_region_Memory_mark, r_region_Memory_mark) := by kernel_rfl
def c_region_Memory_ready : Cmd := (.seq (.set 3 (.const (.bool false))) (.seq (.seq (.set 4 (.var 1)) (.block 0 (.loop [0, 1, 2, 4] (.seq (.cond (.bin .lss (.var 4) (.bin .add (.var 1) (.var 2))) .skip (.exit 0)) (.seq (.block 1 (.cond (.pick (.un .not (.ld none (.ixArr 64 1 (.offp 96 (.nn (.var 0))) (.var 4)))) (.const (.bool true)) (.bin .neq (.ld none (.offp 0 (.ixArr 8 4 (.offp 160 (.nn (.var 0))) (.bin .quo (.var 4) (.const (.int .i64 8)))))) (.const (.int .i64 0)))) (.seq (.set 3 (.const (.bool false))) .ret) .skip)) (.set 4 (.bin .add (.var 4) (.const (.int .i64 1))))))))) (.seq (.set 3 (.const (.bool true))) .ret)))
abbrev v_region_Memory_ready : List Nat := [0, 1, 2, 6, 7]
abbrev k_region_Memory_ready : List (List Nat) := [[0, 1, 2, 4]]
abbrev r_region_Memory_ready : List Ex := [(.var 3)]
theorem ok_region_Memory_ready : compile Tryz.prog Tryz.f82 v_region_Memory_ready k_region_Memory_ready = some (c_region_Memory_ready, r_region_Memory_ready) := by kernel_rfl
def c_region_little : Cmd := (.seq (.set 1 (.const (.int .u64 0))) (.seq (.set 2 (.const (.int .u64 0))) (.seq (.seq (.seq (.set 5 (.var 0)) (.seq (.set 4 (.len false (.var 5))) (.set 3 (.const (.int .i64 0))))) (.block 0 (.loop [2, 3, 4, 5] (.seq (.cond (.bin .lss (.var 3) (.var 4)) .skip (.exit 0)) (.seq (.block 1 (.seq (.seq (.chk [(.ld none (.ixSl 1 (.var 5) (.var 3)))]) (.seq (.set 6 (.var 3)) (.set 7 (.ld none (.ixSl 1 (.var 5) (.var 3)))))) (.set 2 (.bin .or (.var 2) (.bin .shl (.conv .u64 (.var 7)) (.bin .mul (.const (.int .i64 8)) (.var 6))))))) (.set 3 (.bin .add (.var 3) (.const (.int .i64 1))))))))) (.seq (.set 1 (.var 2)) .ret))))
abbrev v_region_little : List Nat := [0, 2, 3, 8, 7, 6, 4, 5]
abbrev k_region_little : List (List Nat) := [[2, 3, 4, 5]]
abbrev r_region_little : List Ex := [(.var 1)]
theorem ok_region_little : compile Tryz.prog Tryz.f83 v_region_little k_region_little = some (c_region_little, r_region_little) := by kernel_rfl
def c_region_Memory_bytes : Cmd := (.seq (.seq (.new (some 4) 68 (.var 1) []) (.seq (.set 2 (.const (.slice none 0 0))) (.set 3 (.const (.int .i64 0))))) (.seq (.seq (.set 5 (.ld none (.offp 0 (.var 4)))) (.block 0 (.seq (.set 6 (.bin .eql (.var 5) (.const (.int .i64 2)))) (.cond (.var 6) (.seq (.seq (.set 2 (.slArr 32 1 (.offp 0 (.nn (.var 0))) (.const (.int .i64 0)) (.const (.int .i64 32)))) (.set 3 (.const (.int .i64 0)))) .ret) (.seq (.set 7 (.bin .eql (.var 5) (.const (.int .i64 3)))) (.cond (.var 7) (.seq (.seq (.set 2 (.slArr 64 1 (.offp 32 (.nn (.var 0))) (.const (.int .i64 0)) (.const (.int .i64 64)))) (.set 3 (.const (.int .i64 64)))) .ret) (.seq (.set 8 (.bin .eql (.var 5) (.const (.int .i64 5)))) (.cond (.var 8) (.cond (.isnil 0 true (.ld none (.offp 3 (.var 4)))) (.seq (.seq (.set 2 (.ld none (.offp 0 (.nn (.ld none (.offp 3 (.var 4))))))) (.set 3 (.const (.int .i64 0)))) .ret) .skip) .skip)))))))) (.seq (.seq (.set 2 (.const (.slice none 0 0))) (.set 3 (.const (.int .i64 0)))) .ret)))
abbrev v_region_Memory_bytes : List Nat := [0, 1, 4, 5, 3, 7, 8, 14, 20]
abbrev k_region_Memory_bytes : List (List Nat) := []
abbrev r_region_Memory_bytes : List Ex := [(.var 2), (.var 3)]
theorem ok_region_Memory_bytes : compile Tryz.prog Tryz.f97 v_region_Memory_bytes k_region_Memory_bytes = some (c_region_Memory_bytes, r_region_Memory_bytes) := by kernel_rfl
def c_region_plus : Cmd := (.seq (.seq (.set 2 (.const (.int .i64 0))) (.set 3 (.const (.bool false)))) (.seq (.set 4 (.bin .add (.var 0) (.var 1))) (.seq (.seq (.chk [(.pick (.eqx true .bool (.bin .lss (.var 0) (.const (.int .i64 0))) (.bin .lss (.var 1) (.const (.int .i64 0)))) (.const (.bool true)) (.eqx false .bool (.bin .lss (.var 4) (.const (.int .i64 0))) (.bin .lss (.var 0) (.const (.int .i64 0)))))]) (.seq (.set 2 (.var 4)) (.set 3 (.pick (.eqx true .bool (.bin .lss (.var 0) (.const (.int .i64 0))) (.bin .lss (.var 1) (.const (.int .i64 0)))) (.const (.bool true)) (.eqx false .bool (.bin .lss (.var 4) (.const (.int .i64 0))) (.bin .lss (.var 0) (.const (.int .i64 0)))))))) .ret)))
abbrev v_region_plus : List Nat := [0, 1, 4, 5, 6]
abbrev k_region_plus : List (List Nat) := []
abbrev r_region_plus : List Ex := [(.var 2), (.var 3)]
theorem ok_region_plus : compile Tryz.prog Tryz.f98 v_region_plus k_region_plus = some (c_region_plus, r_region_plus) := by kernel_rfl
end Go.Proofs.YtmfgdbapankamaaGreat
set_option linter.unusedSimpArgs false
set_option linter.unusedVariables false
namespace Go.Proofs.YtmfgdbapankamaaGreat
open Go.Eng
theorem i64w {n : Int} (h1 : -9223372036854775808 ≤ n) (h2 : n ≤ 9223372036854775807) : IntKind.i64.wrap n = n := IntWalk.i64_in n ⟨h1, h2⟩
theorem u64w {n : Int} (h1 : 0 ≤ n) (h2 : n ≤ 18446744073709551615) : IntKind.u64.wrap n = n := IntWalk.u64_in n ⟨h1, h2⟩
theorem i64_lo (n : Int) : -9223372036854775808 ≤ IntKind.i64.wrap n := by rw [IntKind.wrap_i64]; omega
theorem i64_hi (n : Int) : IntKind.i64.wrap n ≤ 9223372036854775807 := by rw [IntKind.wrap_i64]; omega
structure RVal where
  tag : Int
  n : Int
  slot : Int
  cell : Option Addr
def RVal.zero : RVal := ⟨0, 0, 0, none⟩
def RVal.arr (v : RVal) : Array Value := #[.int .i64 v.tag, .int .u64 v.n, .int .i64 v.slot, .pointer v.cell]
def RVal.val (v : RVal) : Value := .agg v.arr
attribute [simp] RVal.val
@[simp] theorem arr_0 (v : RVal) : v.arr[0]? = some (.int .i64 v.tag) := rfl
@[simp] theorem arr_1 (v : RVal) : v.arr[1]? = some (.int .u64 v.n) := rfl
@[simp] theorem arr_2 (v : RVal) : v.arr[2]? = some (.int .i64 v.slot) := rfl
@[simp] theorem arr_3 (v : RVal) : v.arr[3]? = some (.pointer v.cell) := rfl
@[simp] theorem arr_g0 (v : RVal) (h : 0 < v.arr.size) : v.arr[0]'h = .int .i64 v.tag := rfl
@[simp] theorem arr_g1 (v : RVal) (h : 1 < v.arr.size) : v.arr[1]'h = .int .u64 v.n := rfl
@[simp] theorem arr_g2 (v : RVal) (h : 2 < v.arr.size) : v.arr[2]'h = .int .i64 v.slot := rfl
@[simp] theorem arr_g3 (v : RVal) (h : 3 < v.arr.size) : v.arr[3]'h = .pointer v.cell := rfl
@[simp] theorem arr_s0 (v : RVal) (t : Int) : v.arr.setIfInBounds 0 (.int .i64 t) = { v with tag := t }.arr := rfl
@[simp] theorem arr_s1 (v : RVal) (t : Int) : v.arr.setIfInBounds 1 (.int .u64 t) = { v with n := t }.arr := rfl
@[simp] theorem arr_s2 (v : RVal) (t : Int) : v.arr.setIfInBounds 2 (.int .i64 t) = { v with slot := t }.arr := rfl
@[simp] theorem arr_s3 (v : RVal) (t : Option Addr) : v.arr.setIfInBounds 3 (.pointer t) = { v with cell := t }.arr := rfl
@[simp] theorem wrow_arr (w : World) (v : RVal) (T : TypeId) (fz : Nat × Nat) : wrow (w.alloc (.cells v.arr T fz)) w.heap.size 0 4 = some v.arr := wrow_all _ _ _ _ _ rfl
@[simp] theorem arr_size (v : RVal) : v.arr.size = 4 := by simp [RVal.arr]
def RVal.at (v : RVal) (j : Nat) : Value :=
  if j = 0 then .int .i64 v.tag else if j = 1 then .int .u64 v.n else if j = 2 then .int .i64 v.slot else .pointer v.cell
structure RMem where
  ctx : Nat → Int
  stack : Nat → Int
  written : Nat → Bool
  kept : Nat → RVal
  maps : Value
def RMem.at (m : RMem) (i : Nat) : Value :=
  if i < 32 then .int .u8 (m.ctx i) else if i < 96 then .int .u8 (m.stack (i - 32)) else if i < 160 then .bool (m.written (i - 96))
  else if i < 192 then (m.kept ((i - 160) / 4)).at ((i - 160) % 4) else m.maps
def RMem.cells (m : RMem) : Array Value := Array.ofFn (n := 193) fun i => m.at i.val
def fset {α : Type} (f : Nat → α) (i : Nat) (x : α) : Nat → α := fun j => if j = i then x else f j
theorem fset_same {α : Type} (f : Nat → α) (i : Nat) (x : α) : fset f i x i = x := by simp [fset]
theorem fset_other {α : Type} (f : Nat → α) {i j : Nat} (x : α) (h : j ≠ i) : fset f i x j = f j := by simp [fset, h]
theorem mem_size (m : RMem) : m.cells.size = 193 := by simp [RMem.cells]
theorem mem_at (m : RMem) (i : Nat) (h : i < 193) : m.cells[i]? = some (m.at i) := by simp [RMem.cells, h]
theorem mem_ctx (m : RMem) (i : Nat) (h : i < 32) : m.cells[i]? = some (.int .u8 (m.ctx i)) := by rw [mem_at m _ (by omega)]; simp [RMem.at, h]
theorem mem_stack (m : RMem) (i : Nat) (h : i < 64) : m.cells[32 + i]? = some (.int .u8 (m.stack i)) := by
  rw [mem_at m _ (by omega)]; unfold RMem.at; rw [if_neg (by omega), if_pos (by omega)]; simp
theorem mem_written (m : RMem) (i : Nat) (h : i < 64) : m.cells[96 + i]? = some (.bool (m.written i)) := by
  rw [mem_at m _ (by omega)]; unfold RMem.at; rw [if_neg (by omega), if_neg (by omega), if_pos (by omega)]; simp
theorem mem_kept (m : RMem) (k j : Nat) (h : k < 8) (hj : j < 4) : m.cells[160 + k * 4 + j]? = some ((m.kept k).at j) := by
  rw [mem_at m _ (by omega)]; unfold RMem.at; rw [if_neg (by omega), if_neg (by omega), if_neg (by omega), if_pos (by omega)]
  have h1 : (160 + k * 4 + j - 160) / 4 = k := by omega
  have h2 : (160 + k * 4 + j - 160) % 4 = j := by omega
  rw [h1, h2]
theorem mem_tag (m : RMem) (k : Nat) (h : k < 8) : m.cells[160 + k * 4]? = some (.int .i64 (m.kept k).tag) := mem_kept m k 0 h (by omega)
theorem mem_maps (m : RMem) : m.cells[192]? = some m.maps := by rw [mem_at m _ (by omega)]; rfl
theorem mem_row (m : RMem) (k : Nat) (h : k < 8) : m.cells.extract (160 + k * 4) (160 + k * 4 + 4) = (m.kept k).arr := by
  apply Array.ext_getElem?
  intro j
  rw [Array.getElem?_extract]
  have hs := mem_size m
  by_cases hj : j < 4
  · rw [if_pos (by omega), mem_kept m k j h hj]
    have : j = 0 ∨ j = 1 ∨ j = 2 ∨ j = 3 := by omega
    rcases this with rfl | rfl | rfl | rfl <;> rfl
  · rw [if_neg (by omega)]
    simp [RVal.arr]; omega
theorem mem_set {m m' : RMem} {i : Nat} {v : Value} (hi : i < 193) (h1 : m'.at i = v) (h2 : ∀ j, j < 193 → j ≠ i → m'.at j = m.at j) : m.cells.setIfInBounds i v = m'.cells := by
  apply Array.ext_getElem?
  intro j
  rw [Array.getElem?_setIfInBounds]
  have hs := mem_size m
  by_cases hj : j < 193
  · rw [mem_at m' j hj]
    split
    · rename_i h; subst h; rw [if_pos (by omega), h1]
    · rename_i h; rw [mem_at m j hj, h2 j hj (fun e => h e.symm)]
  · have e1 : m.cells[j]? = none := by simp; omega
    have e2 : m'.cells[j]? = none := by simp [mem_size]; omega
    rw [e1, e2]
    split
    · omega
    · rfl
theorem set_written (m : RMem) (i : Nat) (b : Bool) (h : i < 64) : m.cells.setIfInBounds (96 + i) (.bool b) = { m with written := fset m.written i b }.cells := by
  refine mem_set (by omega) ?_ ?_
  · unfold RMem.at; rw [if_neg (by omega), if_neg (by omega), if_pos (by omega)]; simp [fset]
  · intro j hj hne
    unfold RMem.at
    repeat' split
    all_goals (try rfl)
    simp only []
    rw [fset_other _ _ (by omega)]
theorem set_stack (m : RMem) (i : Nat) (x : Int) (h : i < 64) : m.cells.setIfInBounds (32 + i) (.int .u8 x) = { m with stack := fset m.stack i x }.cells := by
  refine mem_set (by omega) ?_ ?_
  · unfold RMem.at; rw [if_neg (by omega), if_pos (by omega)]; simp [fset]
  · intro j hj hne
    unfold RMem.at
    repeat' split
    all_goals (try rfl)
    simp only []
    rw [fset_other _ _ (by omega)]
theorem set_kept (m : RMem) (k : Nat) (v : RVal) (h : k < 8) : setRow m.cells (160 + k * 4) v.arr.toList = { m with kept := fset m.kept k v }.cells := by
  have one : ∀ (m : RMem) (j : Nat) (v' : RVal) (x : Value), j < 4 → v'.at j = x → (∀ i, i < 4 → i ≠ j → v'.at i = (m.kept k).at i) → m.cells.setIfInBounds (160 + k * 4 + j) x = { m with kept := fset m.kept k v' }.cells := by
    intro m j v' x hj hx ho
    refine mem_set (by omega) ?_ ?_
    · unfold RMem.at
      rw [if_neg (by omega), if_neg (by omega), if_neg (by omega), if_pos (by omega)]
      have h1 : (160 + k * 4 + j - 160) / 4 = k := by omega
      have h2 : (160 + k * 4 + j - 160) % 4 = j := by omega
      simp only [h1, h2, fset_same, hx]
    · intro i hi hne
      unfold RMem.at
      split
      · rfl
      · split
        · rfl
        · split
          · rfl
          · split
            · simp only []
              by_cases hk : (i - 160) / 4 = k
              · simp only [hk, fset_same]; exact ho _ (by omega) (by omega)
              · rw [fset_other _ _ hk]
            · rfl
  unfold RVal.arr
  simp only [setRow]
  have e0 := one m 0 ⟨v.tag, (m.kept k).n, (m.kept k).slot, (m.kept k).cell⟩ (.int .i64 v.tag) (by omega) rfl (by
    intro i hi hne; have : i = 1 ∨ i = 2 ∨ i = 3 := by omega
    rcases this with rfl | rfl | rfl <;> rfl)
  rw [Nat.add_zero] at e0
  rw [e0]
  have e1 := one { m with kept := fset m.kept k ⟨v.tag, (m.kept k).n, (m.kept k).slot, (m.kept k).cell⟩ } 1 ⟨v.tag, v.n, (m.kept k).slot, (m.kept k).cell⟩ (.int .u64 v.n) (by omega) rfl (by
    intro i hi hne; simp only [fset_same]; have : i = 0 ∨ i = 2 ∨ i = 3 := by omega
    rcases this with rfl | rfl | rfl <;> rfl)
  rw [e1]
  have e2 := one { m with kept := fset (fset m.kept k ⟨v.tag, (m.kept k).n, (m.kept k).slot, (m.kept k).cell⟩) k ⟨v.tag, v.n, (m.kept k).slot, (m.kept k).cell⟩ } 2 ⟨v.tag, v.n, v.slot, (m.kept k).cell⟩ (.int .i64 v.slot) (by omega) rfl (by
    intro i hi hne; simp only [fset_same]; have : i = 0 ∨ i = 1 ∨ i = 3 := by omega
    rcases this with rfl | rfl | rfl <;> rfl)
  rw [show 160 + k * 4 + 1 + 1 = 160 + k * 4 + 2 from rfl, e2]
  have e3 := one { m with kept := fset (fset (fset m.kept k ⟨v.tag, (m.kept k).n, (m.kept k).slot, (m.kept k).cell⟩) k ⟨v.tag, v.n, (m.kept k).slot, (m.kept k).cell⟩) k ⟨v.tag, v.n, v.slot, (m.kept k).cell⟩ } 3 v (.pointer v.cell) (by omega) rfl (by
    intro i hi hne; simp only [fset_same]; have : i = 0 ∨ i = 1 ∨ i = 2 := by omega
    rcases this with rfl | rfl | rfl <;> rfl)
  rw [show 160 + k * 4 + 2 + 1 = 160 + k * 4 + 3 from rfl, e3]
  have ek : fset (fset (fset (fset m.kept k ⟨v.tag, (m.kept k).n, (m.kept k).slot, (m.kept k).cell⟩) k ⟨v.tag, v.n, (m.kept k).slot, (m.kept k).cell⟩) k ⟨v.tag, v.n, v.slot, (m.kept k).cell⟩) k v = fset m.kept k v := by
    funext j
    simp only [fset]
    split <;> rfl
  simp only [ek]
def IsMem (w : World) (b : Nat) (m : RMem) : Prop := w.heap[b]? = some (.cells m.cells 101 (0, 0))
theorem sized_ret (n : Int) (w : World) : Ret Tryz.prog 79 [.int .i64 n] w fun v w' => v = .bool (decide (n = 1) || decide (n = 2) || decide (n = 4) || decide (n = 8)) ∧ w' = w := by
  refine ret_of_W Tryz.func79 rfl ok_region_sized ?_
  simp [c_region_sized]
theorem exact_ret (a : RVal) (first n : Int) (w : World) : Ret Tryz.prog 81 [a.val, .int .i64 first, .int .i64 n] w
    fun v w' => v = .bool (decide (a.tag = 3) && decide (n = 8) && decide (first.tmod 8 = 0)) ∧ Kept none' w w' := by
  refine ret_of_W Tryz.func81 rfl ok_region_exact ?_
  simp [c_region_exact]
  exact (Kept.refl _ _).alloc _
theorem plus_ret (a b : Int) (w : World) : Ret Tryz.prog 98 [.int .i64 a, .int .i64 b] w fun v w' => v = .tuple #[.int .i64 (IntKind.i64.wrap (a + b)),
    .bool ((decide (a < 0) != decide (b < 0)) || (decide (IntKind.i64.wrap (a + b) < 0) == decide (a < 0)))] ∧ w' = w := by
  refine ret_of_W Tryz.func98 rfl ok_region_plus ?_
  simp [c_region_plus]
  rfl
end Go.Proofs.YtmfgdbapankamaaGreat
namespace Go.Proofs.YtmfgdbapankamaaGreat
open Go.Eng
theorem bytes_stack (b : Nat) (a : RVal) (w : World) (ha : a.tag = 3) : Ret Tryz.prog 97 [.pointer (some ⟨b, 0, none⟩), a.val] w
    fun v w' => v = .tuple #[.slice (some ⟨b, 32, none⟩) 64 64, .int .i64 64] ∧ Kept none' w w' := by
  refine ret_of_W Tryz.func97 rfl ok_region_Memory_bytes ?_
  simp [c_region_Memory_bytes, ha]
  refine W_no (by simp) ?_
  simp
  refine W_yes (by simp) ?_
  simp
  exact (Kept.refl _ _).alloc _
theorem bytes_ctx (b : Nat) (a : RVal) (w : World) (ha : a.tag = 2) : Ret Tryz.prog 97 [.pointer (some ⟨b, 0, none⟩), a.val] w
    fun v w' => v = .tuple #[.slice (some ⟨b, 0, none⟩) 32 32, .int .i64 0] ∧ Kept none' w w' := by
  refine ret_of_W Tryz.func97 rfl ok_region_Memory_bytes ?_
  simp [c_region_Memory_bytes, ha]
  refine W_yes (by simp) ?_
  simp
  exact (Kept.refl _ _).alloc _
theorem view_ret (len below base : Nat) (b : Nat) (a : RVal) (off n : Int) (w : World) (hl : len ≤ 64) (hb : below ≤ 64) (ho1 : -9223372036854775808 ≤ off) (ho2 : off ≤ 9223372036854775807) (hn0 : 0 ≤ n) (hn : n ≤ 140737488351232)
    (hbytes : ∀ w, Ret Tryz.prog 97 [.pointer (some ⟨b, 0, none⟩), a.val] w
      fun v w' => v = .tuple #[.slice (some ⟨b, base, none⟩) len len, .int .i64 below] ∧ Kept none' w w') :
    Ret Tryz.prog 80 [.pointer (some ⟨b, 0, none⟩), a.val, .int .i64 off, .int .i64 n] w fun v w' => Kept none' w w' ∧
      (if -(below : Int) ≤ IntKind.i64.wrap a.n + off ∧ IntKind.i64.wrap a.n + off + n ≤ len - below then
        ∃ f : Nat, (f : Int) = IntKind.i64.wrap a.n + off + below ∧
          v = .tuple #[.slice (some (if len = f then ⟨b, base, none⟩ else ⟨b, base + f, none⟩)) n.toNat (len - f), .int .i64 f, .bool true]
       else v = .tuple #[.slice none 0 0, .int .i64 0, .bool false]) := by
  refine ret_of_W Tryz.func80 rfl ok_region_Memory_view ?_
  have k1 := i64_lo a.n
  have k2 := i64_hi a.n
  simp [c_region_Memory_view]
  refine W_no (by simp) ?_
  simp
  refine W_call0 (by simp) (hbytes _) ?_
  rintro v w1 ⟨rfl, hk⟩
  have h7 := hk.has (hp_new w _) (fun h => h)
  simp
  refine W_call0 (by simp [wcell_of h7]) (plus_ret (IntKind.i64.wrap a.n) off _) ?_
  rintro v w2 ⟨rfl, rfl⟩
  have hkk : Kept none' w w2 := ((Kept.refl _ _).alloc _).trans (hk.mono fun _ _ h => h)
  simp
  generalize hN : IntKind.i64.wrap a.n = N at *
  by_cases hin : -(below : Int) ≤ N + off ∧ N + off + n ≤ len - below
  · have e1 : IntKind.i64.wrap (N + off) = N + off := i64w (by omega) (by omega)
    have e2 : IntKind.i64.wrap (len - below) = (len : Int) - below := i64w (by omega) (by omega)
    have e3 : IntKind.i64.wrap ((len : Int) - below - n) = (len : Int) - below - n := i64w (by omega) (by omega)
    have e4 : IntKind.i64.wrap (-(below : Int)) = -(below : Int) := i64w (by omega) (by omega)
    have e5 : IntKind.i64.wrap (N + off + below) = N + off + below := i64w (by omega) (by omega)
    have e6 : IntKind.i64.wrap (N + off + below + n) = N + off + below + n := i64w (by omega) (by omega)
    have hok : (decide (N < 0) != decide (off < 0) || (decide (N + off < 0) == decide (N < 0))) = true := by
      by_cases h1 : N < 0 <;> by_cases h2 : off < 0 <;> simp [h1, h2] <;> omega
    refine W_no ?_ ?_
    · simp [e1, e2, e3, e4]
      omega
    simp [e1, e5, e6]
    have hf : ∃ f : Nat, (f : Int) = N + off + below := ⟨(N + off + below).toNat, by omega⟩
    obtain ⟨f, hf⟩ := hf
    rw [← hf]
    simp
    rw [if_pos (by omega)]
    simp
    exact ⟨hkk, hin, f, rfl, ⟨rfl, by omega, rfl⟩, rfl⟩
  · refine W_yes ?_ ?_
    · simp
      simp (disch := omega) only [i64w]
      by_cases h1 : N + off < -9223372036854775808
      · refine .inl (.inl ?_)
        have := IntKind.wrap_i64 (N + off)
        omega
      · by_cases h2 : 9223372036854775807 < N + off
        · refine .inl (.inl ?_)
          have := IntKind.wrap_i64 (N + off)
          omega
        · simp (disch := omega) only [i64w]
          omega
    simp
    exact ⟨hkk, fun h1 => by omega⟩
theorem view_stack (b : Nat) (a : RVal) (off n : Int) (w : World) (ha : a.tag = 3) (ho1 : -9223372036854775808 ≤ off) (ho2 : off ≤ 9223372036854775807) (hn0 : 0 ≤ n) (hn : n ≤ 140737488351232) :
    Ret Tryz.prog 80 [.pointer (some ⟨b, 0, none⟩), a.val, .int .i64 off, .int .i64 n] w fun v w' => Kept none' w w' ∧
      (if -64 ≤ IntKind.i64.wrap a.n + off ∧ IntKind.i64.wrap a.n + off + n ≤ 0 then
        ∃ f : Nat, (f : Int) = IntKind.i64.wrap a.n + off + 64 ∧
          v = .tuple #[.slice (some (if 64 = f then ⟨b, 32, none⟩ else ⟨b, 32 + f, none⟩)) n.toNat (64 - f), .int .i64 f, .bool true]
       else v = .tuple #[.slice none 0 0, .int .i64 0, .bool false]) :=
  view_ret 64 64 32 b a off n w (by omega) (by omega) ho1 ho2 hn0 hn (fun w => bytes_stack b a w ha)
theorem view_ctx (b : Nat) (a : RVal) (off n : Int) (w : World) (ha : a.tag = 2) (ho1 : -9223372036854775808 ≤ off) (ho2 : off ≤ 9223372036854775807) (hn0 : 0 ≤ n) (hn : n ≤ 140737488351232) :
    Ret Tryz.prog 80 [.pointer (some ⟨b, 0, none⟩), a.val, .int .i64 off, .int .i64 n] w fun v w' => Kept none' w w' ∧
      (if 0 ≤ IntKind.i64.wrap a.n + off ∧ IntKind.i64.wrap a.n + off + n ≤ 32 then
        ∃ f : Nat, (f : Int) = IntKind.i64.wrap a.n + off ∧
          v = .tuple #[.slice (some (if 32 = f then ⟨b, 0, none⟩ else ⟨b, 0 + f, none⟩)) n.toNat (32 - f), .int .i64 f, .bool true]
       else v = .tuple #[.slice none 0 0, .int .i64 0, .bool false]) := by
  have h := view_ret 32 0 0 b a off n w (by omega) (by omega) ho1 ho2 hn0 hn (fun w => bytes_ctx b a w ha)
  simpa using h
end Go.Proofs.YtmfgdbapankamaaGreat
namespace Go.Proofs.YtmfgdbapankamaaGreat
open Go.Eng
def readyAt (m : RMem) (j : Nat) : Bool := m.written j && decide ((m.kept (j / 8)).tag = 0)
def Ready (m : RMem) (f n : Nat) : Prop := ∀ j, f ≤ j → j < f + n → readyAt m j = true
theorem div8 (i : Nat) (h : i ≤ 100000) : IntKind.i64.wrap ((i : Int) / 8) = (i : Int) / 8 := i64w (by omega) (by omega)
theorem div8n (i : Nat) : ((i : Int) / 8).toNat = i / 8 := by omega
theorem ready_ret (b : Nat) (m : RMem) (f n : Nat) (w : World) (hm : IsMem w b m) (h : f + n ≤ 64) :
    Ret Tryz.prog 82 [.pointer (some ⟨b, 0, none⟩), .int .i64 f, .int .i64 n] w fun v w' => w' = w ∧ ∃ r : Bool, v = .bool r ∧ (r = true ↔ Ready m f n) := by
  refine ret_of_W Tryz.func82 rfl ok_region_Memory_ready ?_
  simp [c_region_Memory_ready]
  refine W_loop (fun env w' => w' = w ∧ ∃ i : Nat, env = [.pointer (some ⟨b, 0, none⟩), .int .i64 f, .int .i64 n, undef, .int .i64 i] ∧ f ≤ i ∧ i ≤ f + n ∧ ∀ j, f ≤ j → j < i → readyAt m j = true)
    (fun env _ => (f + n) - natAt env 4) ?_ ?_
  · exact ⟨rfl, f, by simp, by omega, by omega, fun j h1 h2 => by omega⟩
  · rintro env w' ⟨rfl, i, rfl, h1, h2, h3⟩
    have e1 : IntKind.i64.wrap ((f : Int) + n) = f + n := i64w (by omega) (by omega)
    by_cases hi : i < f + n
    · simp
      refine W_yes (by simp [e1]; omega) ?_
      have ew := mem_written m i (by omega)
      have ek := mem_tag m (i / 8) (by omega)
      simp
      unfold IsMem at hm
      refine W_cond (t := !(readyAt m i)) ?_ ?_ ?_
      · have b1 : ((i : Int) < 64) := by omega
        have b2 : 0 ≤ (i : Int) / 8 := by omega
        have b3 : (i : Int) / 8 < 8 := by omega
        simp [wcell_of hm, div8 i (by omega), div8n, b1, b2, b3, ew, ek, readyAt]
      · intro hr
        simp
        intro hR
        have := hR i h1 hi
        simp [this] at hr
      · intro hr
        simp
        have e2 : IntKind.i64.wrap ((i : Int) + 1) = ((i + 1 : Nat) : Int) := i64w (by omega) (by omega)
        refine ⟨⟨i + 1, by simp [e2], by omega, by omega, fun j g1 g2 => ?_⟩, by simp [natAt, e2]; omega⟩
        by_cases hj : j = i
        · subst hj; simpa using hr
        · exact h3 j g1 (by omega)
    · simp
      refine W_no (by simp [e1]; omega) ?_
      simp
      intro j g1 g2
      exact h3 j g1 (by omega)
end Go.Proofs.YtmfgdbapankamaaGreat
