/- TipstaffPasses: the states between its stretches (mktpw.py). -/
import Derived.Test.YtipfkfecelkhnaaGreatDoorXtpc
set_option maxRecDepth 100000
set_option linter.unusedVariables false
namespace Go.Proofs.YtipfkfecelkhnaaGreatDoor
open Go Go.Eng
noncomputable def tpC (t tn fd j : Nat) : Value := Bool.rec (.int .i64 0) (Bool.rec (.int .i64 0) (.int .i64 2) (Nat.beq fd j)) (Nat.beq tn t)
noncomputable def tpF (t tn fd : Nat) : List Value := [tpC t tn fd 0, tpC t tn fd 1, .int .i64 0, .int .i64 0, .int .i64 0, .int .i64 0, .int .i64 0, .int .i64 0, .int .i64 0, .int .i64 0, .int .i64 0, .int .i64 0, .int .i64 0, .int .i64 0, .int .i64 0, .int .i64 0]
noncomputable def tpH (tn fd : Nat) : HT := (.node (some (.cells (gb.map (Value.int .u32)) 0 0)) (.node (some (.cells (gk.map (Value.int .u32)) 0 0)) (.node (some (.cells [(.int .i64 0), (.int .i64 0)] 227 1)) (.node (some (.map .i64 [(1, (.pointer (some ⟨35, 0, none⟩))), (2, (.pointer (some ⟨641, 0, none⟩)))] 1616)) (.node (some (.cells (tpF 3 tn fd) 3 17)) (.node (some (.cells [(.int .i64 0), (.int .u16 255), (.int .u16 15), (.int .u16 63), (.int .u16 255), (.bool true), (.bool false), (.pointer none)] 170 39)) .nil .nil) .nil) (.node none (.node none .nil (.node none .nil (.node none (.node (some (.cells [(.int .u8 183), (.int .u8 0), (.int .u8 0), (.int .i16 0), (.chan (some 0)), (.int .u8 149), (.int .u8 0), (.int .u8 0), (.int .i16 0), (.int .i32 0)] 46 862)) .nil .nil) .nil))) .nil)) (.node (some (.cells (tpF 1 tn fd) 3 11)) (.node none (.node (some (.cells [(.int .i64 0), (.int .i64 3), (.int .i64 0), (.slice none 0 0), (.pointer none), (.pointer none), (.pointer (some ⟨31, 0, none⟩)), (.int .i64 1)] 166 1641)) .nil .nil) .nil) .nil)) (.node (some (.cells [(.slice none 0 0)] 125 3)) (.node (some (.cells (tpF 0 tn fd) 3 1636)) (.node none (.node none (.node none (.node none .nil (.node none (.node (some (.cells [(.int .i64 0), (.int .i64 2), (.int .i64 0), (.slice (some ⟨64, 0, none⟩) 1 4611686018427387905), (.pointer none), (.pointer (some ⟨637, 0, none⟩)), (.pointer none), (.int .i64 1)] 166 1615)) .nil .nil) .nil)) .nil) .nil) .nil) .nil) (.node (some (.cells (tpF 2 tn fd) 3 14)) .nil (.node none .nil (.node none .nil (.node none .nil (.node none (.node none (.node (some (.cells [(.int .i64 0), (.slice (some ⟨359, 0, none⟩) 2 4611686018427387909), (.slice none 0 0), (.chan (some 103066)), (.chan (some 103068)), (.chan (some 103070)), (.chan (some 103072)), (.chan (some 103074)), (.chan (some 103076)), (.chan (some 103078)), (.chan (some 103080)), (.chan (some 103082)), (.chan (some 103084)), (.chan (some 103086)), (.chan (some 103088)), (.chan (some 103090)), (.chan (some 103092)), (.chan (some 103094)), (.chan (some 103096)), (.chan (some 103098)), (.chan (some 103100)), (.chan (some 103102)), (.chan (some 103104)), (.chan (some 103106)), (.chan (some 103108)), (.chan (some 103110)), (.chan (some 103112)), (.chan (some 103114)), (.chan (some 103116)), (.chan (some 103118)), (.chan (some 103120)), (.chan (some 103122)), (.chan (some 103124)), (.chan (some 103126)), (.chan (some 103128)), (.bool false), (.pointer (some ⟨31, 0, none⟩))] 112 1609)) .nil .nil) .nil) .nil))))))) (.node (some (.cells (gh.map (Value.int .i32)) 0 0)) (.node (some (.cells [(.slice (some ⟨3, 0, none⟩) 1 1)] 122 2)) (.node (some (.cells [(.int .i64 64), (.int .i64 2), (.map (some 7))] 128 1614)) (.node (some (.cells [(.slice (some ⟨15, 0, none⟩) 16 16)] 130 18)) (.node none (.node (some (.cells [(.int .i64 1)] 3 94)) .nil .nil) .nil) .nil) .nil) (.node (some (.cells [(.slice (some ⟨11, 0, none⟩) 16 16)] 130 12)) .nil .nil)) (.node (some (.cells [(.pointer (some ⟨4, 0, none⟩)), (.pointer (some ⟨5, 0, none⟩)), (.pointer (some ⟨8, 0, none⟩)), (.pointer (some ⟨10, 0, none⟩)), (.pointer (some ⟨12, 0, none⟩)), (.pointer (some ⟨14, 0, none⟩)), (.pointer (some ⟨16, 0, none⟩))] 74 19)) (.node (some (.cells [(.slice (some ⟨9, 0, none⟩) 16 16)] 130 9)) .nil .nil) (.node (some (.cells [(.slice (some ⟨13, 0, none⟩) 16 16)] 130 15)) .nil .nil))))
/-- Tenant at has the program alone, as descriptor fd; he goes to another one. -/
noncomputable def tpT (tn fd : Nat) : XSt := ⟨[(.chan (some 1000)), (.chan (some 0)), undef, undef, (.pointer (some ⟨6, 0, none⟩)), undef, undef, undef, undef, undef, undef, undef, undef, undef, undef, undef, .int .i64 (.ofNat tn), .int .i64 (.ofNat fd), undef, undef, undef, undef, undef, undef, undef, undef, undef, undef, undef, undef], tpH tn fd, 653, 1644⟩
noncomputable def tpU (tn fd to : Nat) : XSt := ⟨[(.chan (some 1000)), (.chan (some 0)), undef, undef, (.pointer (some ⟨6, 0, none⟩)), undef, undef, undef, undef, undef, undef, undef, undef, undef, undef, undef, .int .i64 (.ofNat tn), .int .i64 (.ofNat fd), undef, .int .i64 (.ofNat to), undef, undef, undef, undef, undef, undef, undef, undef, undef, undef], tpH tn fd, 653, 1644⟩
def preX : Nat → XC → XC
  | 0, _ => .skip
  | n + 1, .seq a b => .seq a (preX n b)
  | _ + 1, c => c
def dropX : Nat → XC → XC
  | 0, c => c
  | n + 1, .seq _ b => dropX n b
  | _ + 1, _ => .skip
def itemX : Nat → XC → XC
  | 0, .seq a _ => a
  | n + 1, .seq _ b => itemX n b
  | _, c => c
def fstX : XC → XC
  | .seq a _ => a
  | c => c
def secX : XC → XC
  | .seq _ b => b
  | c => c
def inX : XC → XC
  | .block _ a => a
  | .loop _ a => a
  | c => c
def tpX0 : XC := preX 7 xf3.c
def tpX1 : XC := secX (inX (fstX (secX (inX (inX (secX (itemX 7 xf3.c)))))))
def tpX2 : XC := dropX 8 xf3.c
noncomputable abbrev tpR (S : Sy) (c : XC) (st : XSt) : XS := @xcmd S xtabS (@xcall S xtabS 400) c st.env st.h st.m st.s 0
end Go.Proofs.YtipfkfecelkhnaaGreatDoor
