/- Commands of functions, and that they are what the code comes to. -/
import Derived.Test.YtmfgdbapankamaaGreatGr4
import Derived.Test.YtmfgdbapankamaaGreatRows
import Derived.Test.YtmfgdbapankamaaGreatGr20
import Derived.Test.YtmfgdbapankamaaGreatGr13
import Derived.Test.YtmfgdbapankamaaGreatGr15
import Derived.Lib.ConvBytes
namespace Go.Proofs.YtmfgdbapankamaaGreat
open Go.Eng
def c_tipstafflaw20_Case_maps : Cmd := (.seq (.seq (.new (some 3) 29 (.var 0) []) (.seq (.set 1 (.const (.slice none 0 0))) (.set 2 (.const (.slice none 0 0))))) (.seq (.set 4 (.const (.slice none 0 0))) (.seq (.set 5 (.const (.slice none 0 0))) (.seq (.seq (.set 6 (.const (.int .i64 0))) (.block 0 (.loop [3, 4, 5, 6] (.seq (.cond (.pick (.bin .lss (.var 6) (.len false (.ld none (.offp 33 (.var 3))))) (.bin .lss (.var 6) (.const (.int .i64 4))) (.const (.bool false))) .skip (.exit 0)) (.seq (.block 1 (.seq (.seq (.set 8 (.ld (some 4) (.ixSl 4 (.ld none (.offp 33 (.var 3))) (.var 6)))) (.seq (.new (some 7) 43 (.const (.agg (Array.replicate 4 (.int .i64 0)))) []) (.store 4 (.var 7) (.var 8) []))) (.seq (.seq (.call (some 9) 7 [(.ld (some 4) (.var 7))] []) (.cond (.un .not (.var 9)) (.seq (.chk [(.upd 3 1 (.upd 2 1 (.upd 1 1 (.upd 0 1 (.const (.agg (Array.replicate 4 (.int .i64 0)))) (.const (.int .i64 1))) (.const (.int .i64 1))) (.const (.int .i64 8))) (.const (.int .i64 2)))]) (.store 4 (.var 7) (.upd 3 1 (.upd 2 1 (.upd 1 1 (.upd 0 1 (.const (.agg (Array.replicate 4 (.int .i64 0)))) (.const (.int .i64 1))) (.const (.int .i64 1))) (.const (.int .i64 8))) (.const (.int .i64 2))) [])) .skip)) (.seq (.seq (.chk [(.upd 3 1 (.upd 2 1 (.upd 1 1 (.upd 0 1 (.const (.agg (Array.replicate 4 (.int .i64 0)))) (.ld none (.offp 0 (.var 7)))) (.ld none (.offp 1 (.var 7)))) (.ld none (.offp 2 (.var 7)))) (.ld none (.offp 3 (.var 7))))]) (.seq (.call (some 10) 8 [(.upd 3 1 (.upd 2 1 (.upd 1 1 (.upd 0 1 (.const (.agg (Array.replicate 4 (.int .i64 0)))) (.ld none (.offp 0 (.var 7)))) (.ld none (.offp 1 (.var 7)))) (.ld none (.offp 2 (.var 7)))) (.ld none (.offp 3 (.var 7))))] []) (.seq (.chk [(.proj 1 (.var 10))]) (.seq (.set 11 (.proj 0 (.var 10))) (.set 12 (.proj 1 (.var 10))))))) (.seq (.seq (.call (some 13) 9 [(.ld (some 4) (.var 7))] []) (.set 14 (.var 13))) (.seq (.cond (.pick (.bin .neq (.var 12) (.const (.int .i64 0))) (.const (.bool true)) (.isnil 0 false (.var 11))) (.seq (.seq (.set 1 (.const (.slice none 0 0))) (.set 2 (.const (.slice none 0 0)))) .ret) .skip) (.seq (.seq (.set 15 (.const (.int .i64 0))) (.block 2 (.loop [3, 4, 5, 6, 7, 11, 14, 15] (.seq (.cond (.pick (.bin .lss (.var 15) (.len false (.ld none (.offp 34 (.var 3))))) (.bin .lss (.var 15) (.const (.int .i64 12))) (.const (.bool false))) .skip (.exit 2)) (.seq (.block 3 (.seq (.seq (.set 17 (.ld (some 3) (.ixSl 3 (.ld none (.offp 34 (.var 3))) (.var 15)))) (.seq (.new (some 16) 53 (.const (.agg #[(.int .i64 0), (.slice none 0 0), (.slice none 0 0)])) []) (.store 3 (.var 16) (.var 17) []))) (.seq (.cond (.bin .neq (.ld none (.offp 0 (.var 16))) (.var 6)) (.exit 3) .skip) (.seq (.seq .draw (.seq (.chk [(.ld none (.offp 1 (.var 7))), (.ld none (.offp 1 (.var 16)))]) (.seq (.set 19 (.ld none (.offp 2 (.var 16)))) (.seq (.set 20 (.ld none (.offp 2 (.var 7)))) (.seq (.call (some 18) 10 [(.ld none (.offp 1 (.var 16))), (.ld none (.offp 1 (.var 7)))] [(.ld none (.offp 2 (.var 7))), (.ld none (.offp 2 (.var 16)))]) (.seq (.call (some 21) 10 [(.var 19), (.var 20)] []) (.seq (.set 22 (.var 18)) (.set 23 (.var 21))))))))) (.seq (.call none 11 [(.var 11), (.var 22), (.var 23), (.const (.int .u64 0))] []) (.seq (.call none 12 [(.var 14), (.bstr (.var 22)), (.bstr (.var 23)), (.const (.int .u64 0))] []) (.seq (.call none 13 [(.var 11), (.var 23), (.const (.int .u64 0))] []) (.call none 14 [(.var 14), (.bstr (.var 23)), (.const (.int .u64 0))] [])))))))) (.set 15 (.bin .add (.var 15) (.const (.int .i64 1))))))))) (.seq (.cond (.bin .eql (.bin .and (.bin .shr (.ld none (.offp 35 (.var 3))) (.var 6)) (.const (.int .i64 1))) (.const (.int .i64 1))) (.seq (.call none 15 [(.var 11)] []) (.store 1 (.offp 5 (.nn (.var 14))) (.const (.bool true)) [])) .skip) (.seq (.chk [(.var 4)]) (.seq (.row (some 24) 45 1 (.upd 0 1 (.const (.agg #[(.pointer none)])) (.var 11)) []) (.seq (.bi (some 25) .append [30, 30] 30 [(.var 4), (.var 24)] []) (.seq (.chk [(.var 5)]) (.seq (.row (some 26) 49 1 (.upd 0 1 (.const (.agg #[(.pointer none)])) (.var 14)) []) (.seq (.bi (some 27) .append [31, 31] 31 [(.var 5), (.var 26)] []) (.seq (.set 4 (.var 25)) (.set 5 (.var 27))))))))))))))))) (.set 6 (.bin .add (.var 6) (.const (.int .i64 1))))))))) (.seq (.seq (.chk [(.var 5)]) (.seq (.set 1 (.var 4)) (.set 2 (.var 5)))) .ret)))))
abbrev v_tipstafflaw20_Case_maps : List Nat := [0, 2, 3, 1, 4, 5, 6, 7, 30, 32, 45, 8, 9, 49, 10, 11, 12, 71, 80, 82, 84, 85, 13, 14, 116, 117, 120, 121]
abbrev k_tipstafflaw20_Case_maps : List (List Nat) := [[3, 4, 5, 6], [3, 4, 5, 6, 7, 11, 14, 15]]
abbrev r_tipstafflaw20_Case_maps : List Ex := [(.var 1), (.var 2)]
theorem ok_tipstafflaw20_Case_maps : compile Tryz.prog Tryz.f4 v_tipstafflaw20_Case_maps k_tipstafflaw20_Case_maps = some (c_tipstafflaw20_Case_maps, r_tipstafflaw20_Case_maps) := by kernel_rfl
def c_tipstafflaw20_fit : Cmd := (.seq (.set 2 (.const (.slice none 0 0))) (.seq (.seq (.row (some 3) 5 0 (.const (.agg #[])) []) (.seq (.bi (some 4) .append [51, 51] 51 [(.var 3), (.slSl 1 (.var 0) (.const (.int .i64 0)) (.mn (.len false (.var 0)) (.var 1)))] []) (.set 5 (.var 4)))) (.seq (.block 0 (.loop [1, 5] (.seq (.cond (.bin .lss (.len false (.var 5)) (.var 1)) .skip (.exit 0)) (.block 1 (.seq (.chk [(.var 5)]) (.seq (.row (some 6) 5 1 (.upd 0 1 (.const (.agg #[(.int .u8 0)])) (.const (.int .u8 0))) []) (.seq (.bi (some 7) .append [51, 51] 51 [(.var 5), (.var 6)] []) (.set 5 (.var 7))))))))) (.seq (.set 2 (.var 5)) .ret))))
abbrev v_tipstafflaw20_fit : List Nat := [0, 1, 4, 6, 13, 5, 19, 20]
abbrev k_tipstafflaw20_fit : List (List Nat) := [[1, 5]]
abbrev r_tipstafflaw20_fit : List Ex := [(.var 2)]
theorem ok_tipstafflaw20_fit : compile Tryz.prog Tryz.f10 v_tipstafflaw20_fit k_tipstafflaw20_fit = some (c_tipstafflaw20_fit, r_tipstafflaw20_fit) := by kernel_rfl
def c_tipstaffref09_Right : Cmd := (.seq (.seq (.new (some 2) 43 (.var 0) []) (.set 1 (.const (.bool false)))) (.seq (.cond (.pick (.pick (.pick (.pick (.pick (.bin .lss (.ld none (.offp 0 (.var 2))) (.const (.int .i64 0))) (.const (.bool true)) (.bin .gtr (.ld none (.offp 0 (.var 2))) (.const (.int .i64 5)))) (.const (.bool true)) (.bin .lss (.ld none (.offp 2 (.var 2))) (.const (.int .i64 1)))) (.const (.bool true)) (.bin .gtr (.ld none (.offp 2 (.var 2))) (.const (.int .i64 64)))) (.const (.bool true)) (.bin .lss (.ld none (.offp 3 (.var 2))) (.const (.int .i64 1)))) (.const (.bool true)) (.bin .gtr (.ld none (.offp 3 (.var 2))) (.const (.int .i64 64)))) (.seq (.set 1 (.const (.bool false))) .ret) .skip) (.seq (.seq (.set 3 (.ld none (.offp 0 (.var 2)))) (.block 0 (.seq (.set 4 (.bin .eql (.var 3) (.const (.int .i64 0)))) (.cond (.var 4) (.seq (.set 1 (.bin .eql (.ld none (.offp 1 (.var 2))) (.const (.int .i64 4)))) .ret) (.seq (.seq (.set 5 (.bin .eql (.var 3) (.const (.int .i64 1)))) (.cond (.var 5) .skip (.set 5 (.bin .eql (.var 3) (.const (.int .i64 2)))))) (.cond (.var 5) (.seq (.set 1 (.pick (.bin .geq (.ld none (.offp 1 (.var 2))) (.const (.int .i64 1))) (.bin .leq (.ld none (.offp 1 (.var 2))) (.const (.int .i64 16))) (.const (.bool false)))) .ret) (.seq (.set 6 (.bin .eql (.var 3) (.const (.int .i64 5)))) (.cond (.var 6) (.seq (.set 1 (.pick (.bin .geq (.ld none (.offp 1 (.var 2))) (.const (.int .i64 5))) (.bin .leq (.ld none (.offp 1 (.var 2))) (.const (.int .i64 16))) (.const (.bool false)))) .ret) .skip)))))))) (.seq (.set 1 (.bin .eql (.ld none (.offp 1 (.var 2))) (.const (.int .i64 0)))) .ret))))
abbrev v_tipstaffref09_Right : List Nat := [0, 2, 1, 32, 33, 38, 49]
abbrev k_tipstaffref09_Right : List (List Nat) := []
abbrev r_tipstaffref09_Right : List Ex := [(.var 1)]
theorem ok_tipstaffref09_Right : compile Tryz.prog Tryz.f7 v_tipstaffref09_Right k_tipstaffref09_Right = some (c_tipstaffref09_Right, r_tipstaffref09_Right) := by kernel_rfl
def c_tipstaffref09_New : Cmd := (.seq (.seq (.new (some 2) 43 (.var 0) []) (.set 1 (.const (.pointer none)))) (.seq (.seq (.chk [(.upd 0 4 (.const (.agg #[(.int .i64 0), (.int .i64 0), (.int .i64 0), (.int .i64 0), (.slice none 0 0), (.bool false)])) (.ld (some 4) (.var 2)))]) (.seq (.new (some 3) 62 (.upd 0 4 (.const (.agg #[(.int .i64 0), (.int .i64 0), (.int .i64 0), (.int .i64 0), (.slice none 0 0), (.bool false)])) (.ld (some 4) (.var 2))) []) (.set 4 (.var 3)))) (.seq (.seq (.set 5 (.const (.int .i64 0))) (.block 0 (.loop [2, 4, 5] (.seq (.cond (.pick (.bin .eql (.ld none (.offp 0 (.var 2))) (.const (.int .i64 0))) (.bin .lss (.var 5) (.ld none (.offp 3 (.var 2)))) (.const (.bool false))) .skip (.exit 0)) (.seq (.block 1 (.seq .draw (.seq (.set 11 (.ld none (.offp 4 (.nn (.var 4))))) (.seq (.set 13 (.conv .u8 (.var 5))) (.seq (.set 7 (.ld none (.offp 2 (.var 2)))) (.alt (.seq (.row (some 6) 5 4 (.upd 3 1 (.upd 2 1 (.upd 1 1 (.upd 0 1 (.const (.agg (Array.replicate 4 (.int .u8 0)))) (.var 13)) (.const (.int .u8 0))) (.const (.int .u8 0))) (.const (.int .u8 0))) [(.ld none (.offp 2 (.var 2))), (.ld none (.offp 4 (.nn (.var 4))))]) (.seq (.set 9 (.bstr (.var 6))) (.seq (.sem (some 8) (.mk 51) [(.var 7), (.var 7)] [(.bstr (.var 6)), (.ld none (.offp 4 (.nn (.var 4))))]) (.seq (.set 14 (.bstr (.var 8))) (.seq (.chk [(.upd 1 1 (.upd 0 1 (.const (.agg #[(.string ⟨#[]⟩), (.string ⟨#[]⟩)])) (.var 9)) (.var 14))]) (.seq (.row (some 10) 86 1 (.upd 0 2 (.const (.agg #[(.string ⟨#[]⟩), (.string ⟨#[]⟩)])) (.upd 1 1 (.upd 0 1 (.const (.agg #[(.string ⟨#[]⟩), (.string ⟨#[]⟩)])) (.var 9)) (.var 14))) [(.ld none (.offp 4 (.nn (.var 4))))]) (.seq (.bi (some 12) .append [60, 60] 60 [(.var 11), (.var 10)] []) (.store 1 (.offp 4 (.nn (.var 4))) (.var 12) [])))))))) (.seq (.sem (some 8) (.mk 51) [(.var 7), (.var 7)] [(.ld none (.offp 2 (.var 2))), (.ld none (.offp 4 (.nn (.var 4))))]) (.seq (.set 14 (.bstr (.var 8))) (.seq (.row (some 6) 5 4 (.upd 3 1 (.upd 2 1 (.upd 1 1 (.upd 0 1 (.const (.agg (Array.replicate 4 (.int .u8 0)))) (.var 13)) (.const (.int .u8 0))) (.const (.int .u8 0))) (.const (.int .u8 0))) [(.bstr (.var 8)), (.ld none (.offp 2 (.var 2))), (.ld none (.offp 4 (.nn (.var 4))))]) (.seq (.set 9 (.bstr (.var 6))) (.seq (.chk [(.upd 1 1 (.upd 0 1 (.const (.agg #[(.string ⟨#[]⟩), (.string ⟨#[]⟩)])) (.var 9)) (.var 14))]) (.seq (.row (some 10) 86 1 (.upd 0 2 (.const (.agg #[(.string ⟨#[]⟩), (.string ⟨#[]⟩)])) (.upd 1 1 (.upd 0 1 (.const (.agg #[(.string ⟨#[]⟩), (.string ⟨#[]⟩)])) (.var 9)) (.var 14))) [(.ld none (.offp 4 (.nn (.var 4))))]) (.seq (.bi (some 12) .append [60, 60] 60 [(.var 11), (.var 10)] []) (.store 1 (.offp 4 (.nn (.var 4))) (.var 12) [])))))))))))))) (.set 5 (.bin .add (.var 5) (.const (.int .i64 1))))))))) (.seq (.set 1 (.var 4)) .ret))))
abbrev v_tipstaffref09_New : List Nat := [0, 2, 1, 7, 3, 4, 26, 29, 30, 27, 33, 23, 34, 25, 31]
abbrev k_tipstaffref09_New : List (List Nat) := [[2, 4, 5]]
abbrev r_tipstaffref09_New : List Ex := [(.var 1)]
theorem ok_tipstaffref09_New : compile Tryz.prog Tryz.f9 v_tipstaffref09_New k_tipstaffref09_New = some (c_tipstaffref09_New, r_tipstaffref09_New) := by kernel_rfl
def c_tipstaffref09_Map_DocUpdate : Cmd := (.seq (.set 4 (.const (.int .i64 0))) (.seq (.cond (.ld none (.offp 5 (.nn (.var 0)))) (.seq (.set 4 (.const (.int .i64 1))) .ret) .skip) (.seq (.seq (.call (some 5) 27 [(.var 0), (.var 1)] []) (.cond (.pick (.pick (.un .not (.var 5)) (.const (.bool true)) (.bin .neq (.len true (.var 2)) (.ld none (.offp 2 (.offp 0 (.nn (.var 0))))))) (.const (.bool true)) (.bin .gtr (.var 3) (.const (.int .u64 2)))) (.seq (.set 4 (.const (.int .i64 22))) .ret) .skip)) (.seq (.seq (.call (some 6) 28 [(.var 0), (.var 1)] []) (.set 7 (.var 6))) (.seq (.cond (.pick (.bin .geq (.var 7) (.const (.int .i64 0))) (.bin .eql (.var 3) (.const (.int .u64 1))) (.const (.bool false))) (.seq (.set 4 (.const (.int .i64 17))) .ret) .skip) (.seq (.cond (.pick (.bin .lss (.var 7) (.const (.int .i64 0))) (.bin .eql (.ld none (.offp 0 (.offp 0 (.nn (.var 0))))) (.const (.int .i64 0))) (.const (.bool false))) (.seq (.set 4 (.const (.int .i64 7))) .ret) .skip) (.seq (.cond (.pick (.bin .lss (.var 7) (.const (.int .i64 0))) (.bin .eql (.var 3) (.const (.int .u64 2))) (.const (.bool false))) (.seq (.set 4 (.const (.int .i64 2))) .ret) .skip) (.seq (.cond (.bin .geq (.var 7) (.const (.int .i64 0))) (.seq (.seq (.call (some 8) 29 [(.var 0), (.var 7)] []) (.set 9 (.var 8))) (.seq (.store 1 (.offp 1 (.ixSl 2 (.ld none (.offp 4 (.nn (.var 0)))) (.var 9))) (.var 2) []) (.seq (.set 4 (.const (.int .i64 0))) .ret))) .skip) (.seq (.seq .draw (.cond (.bin .geq (.len false (.ld none (.offp 4 (.nn (.var 0))))) (.ld none (.offp 3 (.offp 0 (.nn (.var 0)))))) (.seq (.cond (.bin .neq (.ld none (.offp 0 (.offp 0 (.nn (.var 0))))) (.const (.int .i64 2))) (.seq (.set 4 (.const (.int .i64 7))) .ret) .skip) (.seq (.chk [(.var 0)]) (.seq (.row (some 10) 86 0 (.const (.agg #[])) []) (.seq (.bi (some 11) .append [60, 60] 60 [(.var 10), (.slSl 2 (.ld none (.offp 4 (.nn (.var 0)))) (.const (.int .i64 1)) (.len false (.ld none (.offp 4 (.nn (.var 0))))))] []) (.store 1 (.offp 4 (.nn (.var 0))) (.var 11) []))))) .skip)) (.seq (.seq .draw (.seq (.set 14 (.ld none (.offp 4 (.nn (.var 0))))) (.seq (.chk [(.var 2)]) (.seq (.call (some 12) 30 [(.var 0), (.var 1)] [(.ld none (.offp 4 (.nn (.var 0))))]) (.seq (.chk [(.upd 1 1 (.upd 0 1 (.const (.agg #[(.string ⟨#[]⟩), (.string ⟨#[]⟩)])) (.var 12)) (.var 2))]) (.seq (.row (some 13) 86 1 (.upd 0 2 (.const (.agg #[(.string ⟨#[]⟩), (.string ⟨#[]⟩)])) (.upd 1 1 (.upd 0 1 (.const (.agg #[(.string ⟨#[]⟩), (.string ⟨#[]⟩)])) (.var 12)) (.var 2))) [(.ld none (.offp 4 (.nn (.var 0))))]) (.seq (.bi (some 15) .append [60, 60] 60 [(.var 14), (.var 13)] []) (.store 1 (.offp 4 (.nn (.var 0))) (.var 15) [])))))))) (.seq (.set 4 (.const (.int .i64 0))) .ret)))))))))))
abbrev v_tipstaffref09_Map_DocUpdate : List Nat := [0, 1, 2, 3, 8, 17, 35, 9, 62, 10, 89, 95, 105, 108, 102, 109]
abbrev k_tipstaffref09_Map_DocUpdate : List (List Nat) := []
abbrev r_tipstaffref09_Map_DocUpdate : List Ex := [(.var 4)]
theorem ok_tipstaffref09_Map_DocUpdate : compile Tryz.prog Tryz.f12 v_tipstaffref09_Map_DocUpdate k_tipstaffref09_Map_DocUpdate = some (c_tipstaffref09_Map_DocUpdate, r_tipstaffref09_Map_DocUpdate) := by kernel_rfl
def c_tipstaffref09_Map_DocPush : Cmd := (.seq (.set 3 (.const (.int .i64 0))) (.seq (.cond (.ld none (.offp 5 (.nn (.var 0)))) (.seq (.set 3 (.const (.int .i64 1))) .ret) .skip) (.seq (.cond (.pick (.pick (.pick (.bin .neq (.ld none (.offp 0 (.offp 0 (.nn (.var 0))))) (.const (.int .i64 3))) (.bin .neq (.ld none (.offp 0 (.offp 0 (.nn (.var 0))))) (.const (.int .i64 4))) (.const (.bool false))) (.const (.bool true)) (.bin .neq (.len true (.var 1)) (.ld none (.offp 2 (.offp 0 (.nn (.var 0))))))) (.const (.bool true)) (.bin .neq (.var 2) (.const (.int .u64 0)))) (.seq (.set 3 (.const (.int .i64 22))) .ret) .skip) (.seq (.seq .draw (.cond (.bin .geq (.len false (.ld none (.offp 4 (.nn (.var 0))))) (.ld none (.offp 3 (.offp 0 (.nn (.var 0)))))) (.seq (.set 3 (.const (.int .i64 7))) .ret) .skip)) (.seq (.seq (.set 5 (.ld none (.offp 4 (.nn (.var 0))))) (.seq (.chk [(.upd 1 1 (.const (.agg #[(.string ⟨#[]⟩), (.string ⟨#[]⟩)])) (.var 1))]) (.seq (.row (some 4) 86 1 (.upd 0 2 (.const (.agg #[(.string ⟨#[]⟩), (.string ⟨#[]⟩)])) (.upd 1 1 (.const (.agg #[(.string ⟨#[]⟩), (.string ⟨#[]⟩)])) (.var 1))) []) (.seq (.bi (some 6) .append [60, 60] 60 [(.var 5), (.var 4)] []) (.store 1 (.offp 4 (.nn (.var 0))) (.var 6) []))))) (.seq (.set 3 (.const (.int .i64 0))) .ret))))))
abbrev v_tipstaffref09_Map_DocPush : List Nat := [0, 1, 2, 6, 57, 54, 58]
abbrev k_tipstaffref09_Map_DocPush : List (List Nat) := []
abbrev r_tipstaffref09_Map_DocPush : List Ex := [(.var 3)]
theorem ok_tipstaffref09_Map_DocPush : compile Tryz.prog Tryz.f14 v_tipstaffref09_Map_DocPush k_tipstaffref09_Map_DocPush = some (c_tipstaffref09_Map_DocPush, r_tipstaffref09_Map_DocPush) := by kernel_rfl
def c_tipstaffref09_Map_may : Cmd := (.seq (.set 2 (.const (.bool false))) (.seq (.seq .draw (.seq (.set 6 (.pick (.pick (.bin .neq (.ld none (.offp 0 (.offp 0 (.nn (.var 0))))) (.const (.int .i64 3))) (.bin .neq (.ld none (.offp 0 (.offp 0 (.nn (.var 0))))) (.const (.int .i64 4))) (.const (.bool false))) (.bin .eql (.len true (.var 1)) (.ld none (.offp 1 (.offp 0 (.nn (.var 0)))))) (.const (.bool false)))) (.seq (.chk [(.pick (.var 6) (.bin .neq (.ld none (.offp 0 (.offp 0 (.nn (.var 0))))) (.const (.int .i64 5))) (.const (.bool false)))]) (.seq (.cond (.pick (.var 6) (.const (.bool true)) (.const (.bool false))) (.set 5 (.bin .neq (.ld none (.offp 0 (.offp 0 (.nn (.var 0))))) (.const (.int .i64 5)))) (.clr [5])) (.seq (.chk [(.pick (.var 6) (.pick (.var 5) (.const (.bool false)) (.bin .sub (.ld none (.offp 1 (.offp 0 (.nn (.var 0))))) (.const (.int .i64 4)))) (.const (.bool false))), (.pick (.var 6) (.pick (.var 5) (.const (.bool false)) (.var 1)) (.const (.bool false)))]) (.seq (.cond (.pick (.var 6) (.pick (.var 5) (.const (.bool false)) (.const (.bool true))) (.const (.bool false))) (.set 4 (.bin .mul (.const (.int .i64 8)) (.bin .sub (.ld none (.offp 1 (.offp 0 (.nn (.var 0))))) (.const (.int .i64 4))))) (.clr [4])) (.seq (.cond (.pick (.var 6) (.pick (.var 5) (.const (.bool false)) (.const (.bool true))) (.const (.bool false))) (.call (some 3) 53 [(.var 1)] [(.ld none (.offp 1 (.offp 0 (.nn (.var 0)))))]) (.clr [3])) (.set 2 (.pick (.var 6) (.pick (.var 5) (.const (.bool true)) (.bin .leq (.var 3) (.var 4))) (.const (.bool false))))))))))) .ret))
abbrev v_tipstaffref09_Map_may : List Nat := [0, 1, 4, 38, 45, 36, 29]
abbrev k_tipstaffref09_Map_may : List (List Nat) := []
abbrev r_tipstaffref09_Map_may : List Ex := [(.var 2)]
theorem ok_tipstaffref09_Map_may : compile Tryz.prog Tryz.f27 v_tipstaffref09_Map_may k_tipstaffref09_Map_may = some (c_tipstaffref09_Map_may, r_tipstaffref09_Map_may) := by kernel_rfl
def c_tipstaffref09_Map_exact : Cmd := (.seq (.set 2 (.const (.int .i64 0))) (.seq (.seq (.set 3 (.const (.int .i64 0))) (.block 0 (.loop [0, 1, 3] (.seq (.cond (.bin .lss (.var 3) (.len false (.ld none (.offp 4 (.nn (.var 0)))))) .skip (.exit 0)) (.seq (.block 1 (.seq (.seq .draw (.seq (.set 6 (.ld none (.offp 4 (.nn (.var 0))))) (.seq (.set 5 (.ld none (.offp 0 (.ixSl 2 (.var 6) (.var 3))))) (.call (some 4) 30 [(.var 0), (.var 1)] [(.ld none (.offp 0 (.ixSl 2 (.var 6) (.var 3)))), (.ld none (.offp 4 (.nn (.var 0))))])))) (.cond (.bin .eql (.var 5) (.var 4)) (.seq (.set 2 (.var 3)) .ret) .skip))) (.set 3 (.bin .add (.var 3) (.const (.int .i64 1))))))))) (.seq (.set 2 (.const (.int .i64 (-1)))) .ret)))
abbrev v_tipstaffref09_Map_exact : List Nat := [0, 1, 4, 5, 25, 22, 18]
abbrev k_tipstaffref09_Map_exact : List (List Nat) := [[0, 1, 3]]
abbrev r_tipstaffref09_Map_exact : List Ex := [(.var 2)]
theorem ok_tipstaffref09_Map_exact : compile Tryz.prog Tryz.f28 v_tipstaffref09_Map_exact k_tipstaffref09_Map_exact = some (c_tipstaffref09_Map_exact, r_tipstaffref09_Map_exact) := by kernel_rfl
def c_tipstaffref09_Map_use : Cmd := (.seq (.set 2 (.const (.int .i64 0))) (.seq (.cond (.bin .neq (.ld none (.offp 0 (.offp 0 (.nn (.var 0))))) (.const (.int .i64 2))) (.seq (.set 2 (.var 1)) .ret) .skip) (.seq (.seq (.set 4 (.ld (some 2) (.ixSl 2 (.ld none (.offp 4 (.nn (.var 0)))) (.var 1)))) (.seq (.new (some 3) 86 (.const (.agg #[(.string ⟨#[]⟩), (.string ⟨#[]⟩)])) []) (.store 2 (.var 3) (.var 4) []))) (.seq (.seq .draw (.seq (.set 6 (.slSl 2 (.ld none (.offp 4 (.nn (.var 0)))) (.const (.int .i64 0)) (.var 1))) (.seq (.set 8 (.slSl 2 (.ld none (.offp 4 (.nn (.var 0)))) (.bin .add (.var 1) (.const (.int .i64 1))) (.len false (.ld none (.offp 4 (.nn (.var 0))))))) (.seq (.set 10 (.ld (some 2) (.var 3))) (.alt (.seq (.row (some 5) 86 0 (.const (.agg #[])) [(.ld (some 2) (.var 3)), (.ld none (.offp 4 (.nn (.var 0)))), (.ld none (.offp 4 (.nn (.var 0))))]) (.alt (.seq (.bi (some 7) .append [60, 60] 60 [(.var 5), (.var 6)] [(.ld (some 2) (.var 3)), (.ld none (.offp 4 (.nn (.var 0)))), (.ld none (.offp 4 (.nn (.var 0))))]) (.alt (.seq (.bi (some 9) .append [60, 60] 60 [(.var 7), (.var 8)] [(.ld (some 2) (.var 3)), (.ld none (.offp 4 (.nn (.var 0)))), (.ld none (.offp 4 (.nn (.var 0))))]) (.seq (.row (some 11) 86 1 (.upd 0 2 (.const (.agg #[(.string ⟨#[]⟩), (.string ⟨#[]⟩)])) (.var 10)) [(.ld none (.offp 4 (.nn (.var 0)))), (.ld none (.offp 4 (.nn (.var 0))))]) (.seq (.bi (some 12) .append [60, 60] 60 [(.var 9), (.var 11)] []) (.store 1 (.offp 4 (.nn (.var 0))) (.var 12) [])))) (.seq (.row (some 11) 86 1 (.upd 0 2 (.const (.agg #[(.string ⟨#[]⟩), (.string ⟨#[]⟩)])) (.var 10)) [(.ld (some 2) (.var 3)), (.ld none (.offp 4 (.nn (.var 0)))), (.ld none (.offp 4 (.nn (.var 0))))]) (.seq (.bi (some 9) .append [60, 60] 60 [(.var 7), (.var 8)] [(.ld (some 2) (.var 3))]) (.seq (.bi (some 12) .append [60, 60] 60 [(.var 9), (.var 11)] []) (.store 1 (.offp 4 (.nn (.var 0))) (.var 12) [])))))) (.seq (.row (some 11) 86 1 (.upd 0 2 (.const (.agg #[(.string ⟨#[]⟩), (.string ⟨#[]⟩)])) (.var 10)) [(.ld (some 2) (.var 3)), (.ld none (.offp 4 (.nn (.var 0)))), (.ld none (.offp 4 (.nn (.var 0))))]) (.seq (.bi (some 7) .append [60, 60] 60 [(.var 5), (.var 6)] [(.ld (some 2) (.var 3)), (.ld none (.offp 4 (.nn (.var 0))))]) (.seq (.bi (some 9) .append [60, 60] 60 [(.var 7), (.var 8)] [(.ld (some 2) (.var 3))]) (.seq (.bi (some 12) .append [60, 60] 60 [(.var 9), (.var 11)] []) (.store 1 (.offp 4 (.nn (.var 0))) (.var 12) []))))))) (.seq (.row (some 11) 86 1 (.upd 0 2 (.const (.agg #[(.string ⟨#[]⟩), (.string ⟨#[]⟩)])) (.var 10)) [(.ld (some 2) (.var 3)), (.ld none (.offp 4 (.nn (.var 0)))), (.ld none (.offp 4 (.nn (.var 0))))]) (.seq (.row (some 5) 86 0 (.const (.agg #[])) [(.ld (some 2) (.var 3)), (.ld none (.offp 4 (.nn (.var 0)))), (.ld none (.offp 4 (.nn (.var 0))))]) (.seq (.bi (some 7) .append [60, 60] 60 [(.var 5), (.var 6)] [(.ld (some 2) (.var 3)), (.ld none (.offp 4 (.nn (.var 0))))]) (.seq (.bi (some 9) .append [60, 60] 60 [(.var 7), (.var 8)] [(.ld (some 2) (.var 3))]) (.seq (.bi (some 12) .append [60, 60] 60 [(.var 9), (.var 11)] []) (.store 1 (.offp 4 (.nn (.var 0))) (.var 12) []))))))))))) (.seq (.set 2 (.bin .sub (.len false (.ld none (.offp 4 (.nn (.var 0))))) (.const (.int .i64 1)))) .ret)))))
abbrev v_tipstaffref09_Map_use : List Nat := [0, 1, 4, 5, 19, 21, 27, 28, 35, 36, 37, 38, 39]
abbrev k_tipstaffref09_Map_use : List (List Nat) := []
abbrev r_tipstaffref09_Map_use : List Ex := [(.var 2)]
theorem ok_tipstaffref09_Map_use : compile Tryz.prog Tryz.f29 v_tipstaffref09_Map_use k_tipstaffref09_Map_use = some (c_tipstaffref09_Map_use, r_tipstaffref09_Map_use) := by kernel_rfl
def c_tipstaffref09_Map_plain : Cmd := (.seq (.set 2 (.const (.string ⟨#[]⟩))) (.seq (.cond (.bin .neq (.ld none (.offp 0 (.offp 0 (.nn (.var 0))))) (.const (.int .i64 5))) (.seq (.set 2 (.var 1)) .ret) .skip) (.seq (.seq (.sem (some 3) (.cv 9 51) [(.var 1)] []) (.set 4 (.var 3))) (.seq (.seq (.seq (.call (some 5) 53 [(.var 1)] []) (.set 6 (.var 5))) (.block 0 (.loop [4, 6] (.seq (.cond (.bin .lss (.var 6) (.bin .mul (.const (.int .i64 8)) (.bin .sub (.len false (.var 4)) (.const (.int .i64 4))))) .skip (.exit 0)) (.seq (.block 1 (.seq .draw (.store 1 (.ixSl 1 (.var 4) (.bin .add (.const (.int .i64 4)) (.bin .quo (.var 6) (.const (.int .i64 8))))) (.bin .andNot (.ld none (.ixSl 1 (.var 4) (.bin .add (.const (.int .i64 4)) (.bin .quo (.var 6) (.const (.int .i64 8)))))) (.bin .shr (.const (.int .u8 128)) (.bin .rem (.var 6) (.const (.int .i64 8))))) []))) (.set 6 (.bin .add (.var 6) (.const (.int .i64 1))))))))) (.seq (.set 2 (.bstr (.var 4))) .ret)))))
abbrev v_tipstaffref09_Map_plain : List Nat := [0, 1, 4, 15, 5, 17, 6]
abbrev k_tipstaffref09_Map_plain : List (List Nat) := [[4, 6]]
abbrev r_tipstaffref09_Map_plain : List Ex := [(.var 2)]
theorem ok_tipstaffref09_Map_plain : compile Tryz.prog Tryz.f30 v_tipstaffref09_Map_plain k_tipstaffref09_Map_plain = some (c_tipstaffref09_Map_plain, r_tipstaffref09_Map_plain) := by kernel_rfl
def c_tipstaffref09_bits : Cmd := (.seq (.set 1 (.const (.int .i64 0))) (.seq (.seq .draw (.set 1 (.bin .add (.bin .add (.bin .add (.conv .i64 (.idxStr (.var 0) (.const (.int .i64 0)))) (.bin .shl (.conv .i64 (.idxStr (.var 0) (.const (.int .i64 1)))) (.const (.int .u64 8)))) (.bin .shl (.conv .i64 (.idxStr (.var 0) (.const (.int .i64 2)))) (.const (.int .u64 16)))) (.bin .shl (.conv .i64 (.idxStr (.var 0) (.const (.int .i64 3)))) (.const (.int .u64 24)))))) .ret))
abbrev v_tipstaffref09_bits : List Nat := [0, 2]
abbrev k_tipstaffref09_bits : List (List Nat) := []
abbrev r_tipstaffref09_bits : List Ex := [(.var 1)]
theorem ok_tipstaffref09_bits : compile Tryz.prog Tryz.f53 v_tipstaffref09_bits k_tipstaffref09_bits = some (c_tipstaffref09_bits, r_tipstaffref09_bits) := by kernel_rfl
end Go.Proofs.YtmfgdbapankamaaGreat
set_option linter.unusedSimpArgs false
set_option linter.unusedVariables false
set_option maxRecDepth 8000
namespace Go.Proofs.YtmfgdbapankamaaGreat
open Go.Eng
structure RefAt (w0 w : World) (b : Nat) (ty ks : Int) (vs cap : Nat) (L : Value) (n : Nat) (xs : List Value) : Prop where
  blk : w.heap[b]? = some (.cells #[.int .i64 ty, .int .i64 ks, .int .i64 vs, .int .i64 cap, L, .bool false] 62 (0, 0))
  row : Eng.Row 86 2 w L n xs
  small : n ≤ 64
  strs : ∀ x ∈ xs, ∃ s, x = .string s
  low : w0.heap.size ≤ b ∧ ∀ g, L.ownBlock = some g → w0.heap.size ≤ g
  keys : ty = 5 → 5 ≤ ks ∧ ks ≤ 16
section
variable {w0 w w' : World} {b : Nat} {ty ks : Int} {vs cap n : Nat} {L : Value} {xs : List Value}
theorem RefAt.calm (h : RefAt w0 w b ty ks vs cap L n xs) (hk : Kept none' w w') : RefAt w0 w' b ty ks vs cap L n xs :=
  ⟨hk.has h.blk fun h => h, rowCalm h.row hk, h.small, h.strs, h.low, h.keys⟩
theorem RefAt.c0 (h : RefAt w0 w b ty ks vs cap L n xs) : wcell w b 0 = some (.int .i64 ty) := by rw [wcell_of h.blk]; rfl
theorem RefAt.c1 (h : RefAt w0 w b ty ks vs cap L n xs) : wcell w b 1 = some (.int .i64 ks) := by rw [wcell_of h.blk]; rfl
theorem RefAt.c2 (h : RefAt w0 w b ty ks vs cap L n xs) : wcell w b 2 = some (.int .i64 vs) := by rw [wcell_of h.blk]; rfl
theorem RefAt.c3 (h : RefAt w0 w b ty ks vs cap L n xs) : wcell w b 3 = some (.int .i64 cap) := by rw [wcell_of h.blk]; rfl
theorem RefAt.c4 (h : RefAt w0 w b ty ks vs cap L n xs) : wcell w b 4 = some L := by rw [wcell_of h.blk]; rfl
theorem RefAt.c5 (h : RefAt w0 w b ty ks vs cap L n xs) : wcell w b 5 = some (.bool false) := by rw [wcell_of h.blk]; rfl
end
theorem strBin_eql (a b : ByteArray) : ∃ t : Bool, strBin .eql a b = some (.bool t) := ⟨_, rfl⟩
theorem data_at {k : ByteArray} {i : Nat} (h : i < k.size) : ∃ x : UInt8, k.data[i]? = some x := ⟨_, Array.getElem?_eq_getElem (show i < k.data.size from h)⟩
theorem fbits_ret (k : ByteArray) (w : World) (h4 : 4 ≤ k.size) : Ret Tryz.prog 53 [.string k] w fun v w' => Kept none' w w' ∧ ∃ z : Nat, v = .int .i64 z ∧ z < 4294967296 := by
  refine ret_of_W Tryz.func53 rfl ok_tipstaffref09_bits ?_
  obtain ⟨x0, h0⟩ := data_at (k := k) (i := 0) (by omega)
  obtain ⟨x1, h1⟩ := data_at (k := k) (i := 1) (by omega)
  obtain ⟨x2, h2⟩ := data_at (k := k) (i := 2) (by omega)
  obtain ⟨x3, h3⟩ := data_at (k := k) (i := 3) (by omega)
  have g0 := x0.toNat_lt
  have g1 := x1.toNat_lt
  have g2 := x2.toNat_lt
  have g3 := x3.toNat_lt
  have e0 : IntKind.i64.wrap (x0.toNat : Int) = (x0.toNat : Nat) := i64w (by omega) (by omega)
  have e1 : IntKind.i64.wrap (x1.toNat : Int) = (x1.toNat : Nat) := i64w (by omega) (by omega)
  have e2 : IntKind.i64.wrap (x2.toNat : Int) = (x2.toNat : Nat) := i64w (by omega) (by omega)
  have e3 : IntKind.i64.wrap (x3.toNat : Int) = (x3.toNat : Nat) := i64w (by omega) (by omega)
  simp only [c_tipstaffref09_bits]
  simp only [W_seq, W_set, W_draw]
  refine ok_intro (.int .i64 0) (by simp) ?_
  refine ok_intro (.int .i64 ((x0.toNat + x1.toNat * 256 + x2.toNat * 65536 + x3.toNat * 16777216 : Nat) : Int)) ?_ ?_
  · simp [h0, h1, h2, h3, e0, e1, e2, e3]
    have b1 : (2 : Int) ^ min 8 IntKind.i64.bits = 256 := rfl
    have b2 : (2 : Int) ^ min 16 IntKind.i64.bits = 65536 := rfl
    have b3 : (2 : Int) ^ min 24 IntKind.i64.bits = 16777216 := rfl
    have d1 : IntKind.i64.wrap ((x1.toNat : Int) * 256) = (x1.toNat : Int) * 256 := i64w (by omega) (by omega)
    have d2 : IntKind.i64.wrap ((x2.toNat : Int) * 65536) = (x2.toNat : Int) * 65536 := i64w (by omega) (by omega)
    have d3 : IntKind.i64.wrap ((x3.toNat : Int) * 16777216) = (x3.toNat : Int) * 16777216 := i64w (by omega) (by omega)
    have d4 : IntKind.i64.wrap ((x0.toNat : Int) + x1.toNat * 256) = (x0.toNat : Int) + x1.toNat * 256 := i64w (by omega) (by omega)
    have d5 : IntKind.i64.wrap ((x0.toNat : Int) + x1.toNat * 256 + x2.toNat * 65536) = (x0.toNat : Int) + x1.toNat * 256 + x2.toNat * 65536 := i64w (by omega) (by omega)
    rw [b1, b2, b3, d1, d2, d3, d4, d5, i64w (by omega) (by omega)]
  · simp
    exact ⟨(Kept.refl _ _).drew, x0.toNat + x1.toNat * 256 + x2.toNat * 65536 + x3.toNat * 16777216, by simp, by omega⟩
def RawB (w : World) (g n : Nat) : Prop := ∃ cs, w.heap[g]? = some (.cells cs 5 (cs.size, cs.size + 1)) ∧ n ≤ cs.size ∧ ∀ j, j < n → ∃ x : Int, cs[j]? = some (.int .u8 x)
theorem RawB.calm {w w' : World} {g n : Nat} (h : RawB w g n) (hk : Kept none' w w') : RawB w' g n := by
  obtain ⟨cs, h1, h2⟩ := h
  exact ⟨cs, hk.has h1 fun h => h, h2⟩
theorem RawB.store {w : World} {g n j : Nat} (h : RawB w g n) (hj : j < n) (y : Int) : ∃ w', stv w 1 (.pointer (some ⟨g, j, none⟩)) (.int .u8 y) = some w' ∧ RawB w' g n ∧ Kept (· = g) w w' := by
  obtain ⟨cs, h1, h2, h3⟩ := h
  refine ⟨put w g (.cells (cs.setIfInBounds j (.int .u8 y)) 5 (cs.size, cs.size + 1)), ?_, ⟨cs.setIfInBounds j (.int .u8 y), by simpa using put_same (blk_lt h1), by simpa using h2, fun i hi => ?_⟩, (Kept.refl (· = g) w).put (b := g) (fun _ => rfl) _⟩
  · rw [stv_of (n := 1) (v := .int .u8 y) h1 rfl (by omega) (.inr (by simp; omega)) (by simp [Value.oneCell'])]
    simp
  · rw [Array.getElem?_setIfInBounds]
    by_cases e : j = i
    · subst e
      rw [if_pos rfl, if_pos (by omega)]
      exact ⟨y, rfl⟩
    · rw [if_neg e]
      exact h3 i hi
theorem RawB.cell {w : World} {g n j : Nat} (h : RawB w g n) (hj : j < n) : ∃ x : Int, wcell w g j = some (.int .u8 x) := by
  obtain ⟨cs, h1, h2, h3⟩ := h
  rw [wcell_of h1]
  exact h3 j hj
theorem bytesIn_any : ∀ (r : List Value), (∀ v ∈ r, ∃ x : Int, v = .int .u8 x) → ∃ l, bytesIn r = some l
  | [], _ => ⟨[], rfl⟩
  | v :: r, h => by
    obtain ⟨x, rfl⟩ := h v (List.mem_cons_self ..)
    obtain ⟨l, hl⟩ := bytesIn_any r fun u hu => h u (List.mem_cons_of_mem _ hu)
    exact ⟨_, by simp only [bytesIn, hl, Option.map_some]; rfl⟩
theorem RawB.str {w : World} {g n c : Nat} (h : RawB w g n) : ∃ s, bstrv w (.slice (some ⟨g, 0, none⟩) n c) = some (.string s) := by
  obtain ⟨cs, h1, h2, h3⟩ := h
  obtain ⟨l, hl⟩ := bytesIn_any (cs.toList.take n) fun v hv => by
    obtain ⟨j, hj⟩ := List.mem_iff_getElem?.1 hv
    rw [List.getElem?_take] at hj
    split at hj
    · rename_i hjn
      obtain ⟨x, hx⟩ := h3 j hjn
      rw [Array.getElem?_toList, hx] at hj
      cases hj
      exact ⟨x, rfl⟩
    · cases hj
  refine ⟨⟨l.toArray⟩, ?_⟩
  have hr : wrow w g 0 n = some (cs.extract 0 n) := by rw [wrow_of h1 (by omega)]; simp
  have hx : (cs.extract 0 n).toList = cs.toList.take n := by simp
  simp only [bstrv, hr, Option.bind_some, hx, hl, Option.map_some]
theorem cvk (w : World) (k : ByteArray) : ∃ c w', ((Tag.cv 9 51).sem [.string k]).run Tryz.prog w = .ok (.slice (some ⟨w.heap.size, 0, none⟩) k.size c) w' ∧ Kept none' w w' ∧ RawB w' w.heap.size k.size := by
  refine ⟨grownCap w k.size 0 5, Lib.bytesWorld w 5 k, ?_, ?_, ?_⟩
  · have := Lib.run_convert_string_bytes (P := Tryz.prog) w 9 51 5 k Tryz.underlying9 Tryz.underlying51 Tryz.underlying5
    simp only [Tag.sem]
    exact this
  · exact ⟨rfl, rfl, rfl, by rw [Lib.bytesWorld_size]; omega, fun j hj _ => Lib.bytesWorld_at_old w 5 _ j hj⟩
  · refine ⟨_, Lib.bytesWorld_at_new w 5 k, ?_, fun j hj => ?_⟩
    · show k.data.size ≤ _
      simp [Lib.bytesCells]
    · unfold Lib.bytesCells
      rw [Array.getElem?_append_left (by rw [Array.size_map]; exact hj), Array.getElem?_map, Array.getElem?_eq_getElem (show j < k.data.size from hj)]
      exact ⟨_, rfl⟩
section
variable {w0 w : World} {b : Nat} {ty ks : Int} {vs cap n : Nat} {L : Value} {xs : List Value}
set_option maxHeartbeats 2000000 in
theorem may_ret (h : RefAt w0 w b ty ks vs cap L n xs) (k : ByteArray) : Ret Tryz.prog 27 [.pointer (some ⟨b, 0, none⟩), .string k] w fun v w' => Kept none' w w' ∧ ∃ t : Bool, v = .bool t ∧ (t = true → (k.size : Int) = ks) := by
  refine ret_of_W Tryz.func27 rfl ok_tipstaffref09_Map_may ?_
  have h0 := h.c0
  have h1 := h.c1
  simp only [c_tipstaffref09_Map_may]
  simp only [W_seq, W_set, W_draw]
  refine ok_intro (.bool false) (by simp) ?_
  have hkd : Kept none' w w.drew := (Kept.refl _ _).drew
  have hd0 : wcell w.drew b 0 = _ := h0
  have hd1 : wcell w.drew b 1 = _ := h1
  generalize w.drew = w1 at *
  by_cases hp : (ty ≠ 3 ∧ ty ≠ 4) ∧ (k.size : Int) = ks
  · obtain ⟨⟨p3, p4⟩, ps⟩ := hp
    refine ok_intro (.bool true) (by simp [hd0, hd1, p3, p4, ps]) ?_
    try simp only [W_seq]
    refine W_chkIn [.bool (decide (ty ≠ 5))] (by simp [hd0]) ?_
    try simp only [W_seq]
    refine W_yes (by simp) ?_
    simp only [W_set]
    by_cases h5 : ty = 5
    · refine ok_intro (.bool false) (by simp [hd0, h5]) ?_
      have hks := h.keys h5
      have e1 : IntKind.i64.wrap (ks - 4) = ks - 4 := i64w (by omega) (by omega)
      have e2 : IntKind.i64.wrap (8 * (ks - 4)) = 8 * (ks - 4) := i64w (by omega) (by omega)
      try simp only [W_seq]
      refine W_chkIn [.int .i64 (ks - 4), .string k] (by simp [hd1, e1]) ?_
      try simp only [W_seq]
      refine W_yes (by simp) ?_
      simp only [W_set]
      refine ok_intro (.int .i64 (8 * (ks - 4))) (by simp [hd1, e1, e2]) ?_
      try simp only [W_seq]
      refine W_yes (by simp) ?_
      refine W_calmP (vs := [.string k]) (by simp) (fbits_ret k w1 (by omega)) ?_
      rintro v w2 hk2 ⟨z, rfl, hz⟩
      simp only [W_set]
      refine ok_intro (.bool (decide ((z : Int) ≤ 8 * (ks - 4)))) (by simp) ?_
      simp [ps]
      exact ⟨hkd.trans hk2, by omega⟩
    · refine ok_intro (.bool true) (by simp [hd0, h5]) ?_
      try simp only [W_seq]
      refine W_chkIn [.bool false, .bool false] (by simp) ?_
      try simp only [W_seq]
      refine W_no (by simp) ?_
      simp only [W_clr, W_seq]
      refine W_no (by simp) ?_
      simp only [W_clr, W_set]
      refine ok_intro (.bool true) (by simp) ?_
      simp [ps]
      exact hkd
  · refine ok_intro (.bool false) ?_ ?_
    · by_cases p3 : ty = 3
      · simp [hd0, p3]
      · by_cases p4 : ty = 4
        · simp [hd0, p4]
        · simp [hd0, hd1, p3, p4]
          intro hh
          exact hp ⟨⟨p3, p4⟩, hh⟩
    try simp only [W_seq]
    refine W_chkIn [.bool false] (by simp) ?_
    try simp only [W_seq]
    refine W_no (by simp) ?_
    simp only [W_clr, W_seq]
    refine W_chkIn [.bool false, .bool false] (by simp) ?_
    try simp only [W_seq]
    refine W_no (by simp) ?_
    simp only [W_clr, W_seq]
    refine W_no (by simp) ?_
    simp only [W_clr, W_set]
    refine ok_intro (.bool false) (by simp) ?_
    simp
    exact hkd
set_option maxHeartbeats 4000000 in
theorem fplain_ret (h : RefAt w0 w b ty ks vs cap L n xs) (k : ByteArray) (hk : (k.size : Int) = ks) : Ret Tryz.prog 30 [.pointer (some ⟨b, 0, none⟩), .string k] w fun v w' => Kept none' w w' ∧ ∃ s, v = .string s := by
  refine ret_of_W Tryz.func30 rfl ok_tipstaffref09_Map_plain ?_
  have h0 := h.c0
  simp only [c_tipstaffref09_Map_plain]
  simp only [W_seq, W_set]
  refine ok_intro (.string ⟨#[]⟩) (by simp) ?_
  try simp only [W_seq]
  by_cases h5 : ty = 5
  · have hks := h.keys h5
    refine W_no (by simp [h0, h5]) ?_
    simp only [W_skip, W_seq]
    obtain ⟨c, w1, hr, hk1, hB1⟩ := cvk w k
    refine W_sem (vs := [.string k]) (by simp) hr (stab_nil _ _ _) ?_
    simp only [W_set, W_seq]
    refine ok_intro (.slice (some ⟨w.heap.size, 0, none⟩) k.size c) (by simp) ?_
    refine W_calmP (vs := [.string k]) (by simp) (fbits_ret k w1 (by omega)) ?_
    rintro v w2 hk2 ⟨z, rfl, hz⟩
    simp only [W_set, W_block]
    refine ok_intro (.int .i64 z) (by simp) ?_
    have hB2 := hB1.calm hk2
    have hk02 := hk1.trans hk2
    simp
    generalize hg : w.heap.size = g at *
    refine W_loop (fun env w' => ∃ i : Nat, env = [undef, undef, undef, undef, .slice (some ⟨g, 0, none⟩) k.size c, undef, .int .i64 i] ∧ i ≤ 4294967300 ∧ Kept none' w w' ∧ RawB w' g k.size) (fun env _ => 8 * k.size - natAt env 6) ?_ ?_
    · exact ⟨z, by simp, by omega, hk02, hB2⟩
    · rintro env w3 ⟨i, rfl, hi, hk3, hB3⟩
      have e1 : IntKind.i64.wrap ((k.size : Int) - 4) = (k.size : Int) - 4 := i64w (by omega) (by omega)
      have e2 : IntKind.i64.wrap (8 * ((k.size : Int) - 4)) = 8 * ((k.size : Int) - 4) := i64w (by omega) (by omega)
      have e3 : IntKind.i64.wrap ((i : Int) + 1) = ((i + 1 : Nat) : Int) := i64w (by omega) (by omega)
      have q0 : (i : Int).tdiv 8 = ((i / 8 : Nat) : Int) := rfl
      have q1 : IntKind.i64.wrap ((i / 8 : Nat) : Int) = ((i / 8 : Nat) : Int) := i64w (by omega) (by omega)
      have q2 : IntKind.i64.wrap (4 + ((i / 8 : Nat) : Int)) = ((4 + i / 8 : Nat) : Int) := i64w (by omega) (by omega)
      have q3 : (i : Int).tmod 8 = ((i % 8 : Nat) : Int) := rfl
      by_cases hgo : (i : Int) < 8 * ((k.size : Int) - 4)
      · try simp only [W_seq]
        refine W_yes (by simp [e1, e2]; omega) ?_
        simp
        have hj : 4 + i / 8 < k.size := by omega
        have hB4 := hB3.calm (Kept.refl none' w3).drew
        have hk4 := hk3.drew
        generalize w3.drew = w4 at *
        obtain ⟨x, hx⟩ := hB4.cell hj
        generalize hq : i / 8 = q at *
        generalize hrr : i % 8 = r at *
        obtain ⟨w5, hs5, hB5, hk5⟩ := hB4.store hj (bitAndNot .u8 x (Int.fdiv 128 (2 ^ (min r 8))))
        have tn : ((4 : Int) + q).toNat = 4 + q := by omega
        have hlt : (4 : Int) + q < k.size := by omega
        have hge : (0 : Int) ≤ 4 + q := by omega
        have q2' : IntKind.i64.wrap ((4 : Int) + q) = 4 + q := by rw [q2]; omega
        have hix : ∀ w', (Ex.ixSl 1 (Ex.var 4) (Ex.bin BinOp.add (Ex.const (Value.int IntKind.i64 4)) (Ex.bin BinOp.quo (Ex.var 6) (Ex.const (Value.int IntKind.i64 8))))).ev [undef, undef, undef, undef, Value.slice (some { block := g, off := 0 }) k.size c, undef, Value.int IntKind.i64 ↑i] w' = some (.pointer (some ⟨g, 4 + q, none⟩)) := by
          intro w'
          simp [q0, q1, q2', tn, hlt, hge]
        refine W_store (hix _) (by simp [q0, q1, q2', tn, hlt, hge, hx, q3]; rfl) hs5 (stab_nil _ _ _) ?_
        simp [e3]
        exact ⟨⟨i + 1, by simp, by omega, hk4.then hk5 (fun j hj h => by omega), hB5⟩, by simp [natAt]; omega⟩
      · try simp only [W_seq]
        refine W_no (by simp [e1, e2]; omega) ?_
        obtain ⟨s, hs⟩ := hB3.str (c := c)
        simp [hs]
        exact hk3
  · refine W_yes (by simp [h0, h5]) ?_
    simp
    exact Kept.refl _ _
end
end Go.Proofs.YtmfgdbapankamaaGreat
