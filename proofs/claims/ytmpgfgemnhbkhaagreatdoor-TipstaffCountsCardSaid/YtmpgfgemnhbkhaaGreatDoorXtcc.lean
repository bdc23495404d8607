/- TipstaffCounts: symbols (two numbers, their residues), the states between its stretches (mktcs.py). -/
import Derived.Test.YtmpgfgemnhbkhaaGreatDoorEngXO
import Derived.Test.YtmpgfgemnhbkhaaGreatDoorEngXN
import Derived.Test.YtmpgfgemnhbkhaaGreatDoorXtttab
set_option maxRecDepth 100000
set_option linter.unusedVariables false
namespace Go.Proofs.YtmpgfgemnhbkhaaGreatDoor
open Go Go.Eng
namespace tco
abbrev H (a b : Int) (p : Nat → Int) : Prop := (-9223372036854775808 ≤ p 0 ∧ p 0 ≤ 9223372036854775807) ∧ (-9223372036854775808 ≤ p 1 ∧ p 1 ≤ 9223372036854775807) ∧ (p 0 % 18446744073709551616) % 20 = a ∧ (p 1 % 18446744073709551616) % 12 = b
def θ (a : Int) (p : Nat → Int) : Nat → Value := fun j => match j with
  | 0 => .int .i64 (p 0)
  | 1 => .int .i64 (p 1)
  | 2 => .int .u64 (IntKind.u64.wrap (p 0))
  | 3 => .int .u64 (IntKind.u64.wrap (p 1))
  | 4 => .int .i64 a
  | _ => .bool false
theorem plain (a : Int) (p : Nat → Int) : ∀ j, plainV (θ a p j) = true := by intro j; unfold θ; split <;> rfl
def r1 : List (U1 × Value × Value) := [((.conv .u64), (.chan (some 0)), (.chan (some 2))), ((.conv .u64), (.chan (some 1)), (.chan (some 3)))]
theorem hr1 (a : Int) (p : Nat → Int) : ∀ x ∈ r1, Rule1 (θ a p) x := by
  intro x hx
  simp only [r1, List.mem_cons, List.not_mem_nil, or_false] at hx
  rcases hx with rfl | rfl
  · exact ⟨rfl, rfl, rfl⟩
  · exact ⟨rfl, rfl, rfl⟩
def r2 (a b : Int) : List (U2 × Value × Value × Value) := [((.bin .rem), (.chan (some 2)), (.int .u64 20), (.int .u64 a)), ((.bin .rem), (.chan (some 3)), (.int .u64 12), (.int .u64 b))]
theorem rem_of {x m r : Int} (h0 : 0 ≤ x) (hm : m ≠ 0) (h : x % m = r) : intBin .rem .u64 x .u64 m = some (.int .u64 r) := by
  show (if IntKind.u64 = IntKind.u64 ∧ m ≠ 0 then some (Value.int .u64 (x.tmod m)) else none) = _
  rw [if_pos ⟨rfl, hm⟩, Int.tmod_eq_emod_of_nonneg h0, h]
theorem hr2 (a b : Int) (p : Nat → Int) (h : H a b p) : ∀ x ∈ r2 a b, Rule2 (θ a p) x := by
  obtain ⟨⟨a0, b0⟩, ⟨a1, b1⟩, hc0, hc1⟩ := h
  intro x hx
  simp only [r2, List.mem_cons, List.not_mem_nil, or_false] at hx
  rcases hx with rfl | rfl
  · exact ⟨rfl, rfl, rfl, rem_of (x := IntKind.u64.wrap (p 0)) (m := 20) (r := a) (by rw [w_u64]; omega) (by decide) (by rw [w_u64]; exact hc0)⟩
  · exact ⟨rfl, rfl, rfl, rem_of (x := IntKind.u64.wrap (p 1)) (m := 12) (r := b) (by rw [w_u64]; omega) (by decide) (by rw [w_u64]; exact hc1)⟩
def re : List (Value × Value × Bool) := []
theorem hre (a : Int) (p : Nat → Int) : ∀ x ∈ re, RuleE (θ a p) x := fun x hx => nomatch hx
noncomputable abbrev sy (a b : Int) (p : Nat → Int) (h : H a b p) : Sy := syOf (θ a p) (plain a p) r1 (r2 a b) re (hr1 a p) (hr2 a b p h) (hre a p)
end tco
def tcH (i : Nat) : HT := (.node none (.node none (.node none (.node (some (.cells [(.int .u8 98), (.int .u8 10), (.int .u8 0), (.int .i16 (-4)), (.int .i32 0), (.int .u8 24), (.int .u8 1), (.int .u8 1), (.int .i16 0), (.int .i32 0), (.int .u8 0), (.int .u8 0), (.int .u8 0), (.int .i16 0), (.int .i32 0), (.int .u8 191), (.int .u8 2), (.int .u8 10), (.int .i16 0), (.int .i32 0), (.int .u8 7), (.int .u8 2), (.int .u8 0), (.int .i16 0), (.int .i32 (-4)), (.int .u8 133), (.int .u8 0), (.int .u8 0), (.int .i16 0), (.int .i32 1), (.int .u8 85), (.int .u8 0), (.int .u8 0), (.int .i16 2), (.int .i32 0), (.int .u8 183), (.int .u8 0), (.int .u8 0), (.int .i16 0), (.int .i32 0), (.int .u8 149), (.int .u8 0), (.int .u8 0), (.int .i16 0), (.int .i32 0), (.int .u8 183), (.int .u8 1), (.int .u8 0), (.int .i16 0), (.int .i32 1), (.int .u8 219), (.int .u8 0), (.int .u8 1), (.int .i16 0), (.int .i32 0), (.int .u8 121), (.int .u8 0), (.int .u8 0), (.int .i16 0), (.int .i32 0), (.int .u8 149), (.int .u8 0), (.int .u8 0), (.int .i16 0), (.int .i32 0)] 32 11)) .nil .nil) (.node none (.node none (.node none .nil (.node none .nil (.node none (.node none .nil (.node (some (.cells [(.int .i64 0), (.int .i64 4), (.int .i64 8), (.int .i64 1), (.slice (some ⟨880, 0, none⟩) 1 4611686018427387905), (.bool false), (.int .i64 (.ofNat i))] 96 1556)) .nil .nil)) .nil))) .nil) .nil)) (.node none .nil (.node none (.node none (.node none .nil (.node none .nil (.node none (.node none .nil (.node (some (.cells [(.slice (some ⟨868, 0, none⟩) 8 8)] 101 1552)) .nil .nil)) .nil))) .nil) .nil))) (.node none (.node none (.node none (.node none .nil (.node none .nil (.node none .nil (.node none (.node none .nil (.node (some (.cells [(.pointer (some ⟨878, 0, none⟩))] 97 1555)) .nil .nil)) .nil)))) .nil) (.node none (.node none (.node none .nil (.node none .nil (.node none (.node none .nil (.node (some (.cells [(.int .u8 (.ofNat i)), (.int .u8 0), (.int .u8 0), (.int .u8 0), (.int .u8 0), (.int .u8 0), (.int .u8 0), (.int .u8 0)] 5 1551)) .nil .nil)) .nil))) .nil) .nil)) (.node none .nil (.node none .nil (.node none (.node none .nil (.node none .nil (.node none (.node none .nil (.node (some (.cells [(.string ⟨⟨[0, 0, 0, 0]⟩⟩), (.pointer (some ⟨869, 0, none⟩)), (.int .i64 (.ofNat i))] 103 1553)) .nil .nil)) .nil))) .nil)))))
/-- Behind the map's making; k is known; ahead of the loop's i-th round. -/
def tcP : XSt := ⟨[(.chan (some 0)), (.chan (some 1)), undef, undef, undef, undef, undef, undef, undef, (.slice (some ⟨7, 0, none⟩) 13 13), undef, undef, undef, undef, undef, (.pointer (some ⟨867, 0, none⟩)), undef, undef, undef, undef, undef, undef, undef, undef, undef, undef, undef, undef, undef, undef, undef, undef, undef], tcH 0, 881, 1557⟩
def tcQ (x : Value) : XSt := ⟨[(.chan (some 0)), (.chan (some 1)), undef, undef, undef, undef, undef, undef, undef, (.slice (some ⟨7, 0, none⟩) 13 13), undef, undef, undef, undef, undef, (.pointer (some ⟨867, 0, none⟩)), undef, undef, undef, x, undef, undef, undef, undef, undef, undef, undef, undef, undef, undef, undef, undef, undef], tcH 0, 881, 1557⟩
def tcS (i : Nat) (x : Value) : XSt := ⟨[(.chan (some 0)), (.chan (some 1)), undef, undef, undef, undef, undef, undef, undef, (.slice (some ⟨7, 0, none⟩) 13 13), undef, undef, undef, undef, undef, (.pointer (some ⟨867, 0, none⟩)), undef, undef, undef, x, .int .i64 (.ofNat (i + 1)), undef, undef, undef, undef, undef, undef, undef, undef, undef, undef, undef, undef], tcH i, 881, 1557⟩
def preX : Nat → XC → XC
  | 0, _ => .skip
  | n + 1, .seq a b => .seq a (preX n b)
  | _ + 1, c => c
def dropX : Nat → XC → XC
  | 0, c => c
  | n + 1, .seq _ b => dropX n b
  | _ + 1, _ => .skip
def itemX : Nat → XC → XC
  | 0, .seq a _ => a
  | n + 1, .seq _ b => itemX n b
  | _, c => c
def fstX : XC → XC
  | .seq a _ => a
  | c => c
def secX : XC → XC
  | .seq _ b => b
  | c => c
def inX : XC → XC
  | .block _ a => a
  | .loop _ a => a
  | c => c
def tcX0 : XC := preX 6 xf4.c
def tcX1 : XC := itemX 6 xf4.c
def tcX2 : XC := fstX (itemX 7 xf4.c)
def tcX3 : XC := secX (inX (inX (secX (itemX 7 xf4.c))))
def tcX4 : XC := dropX 8 xf4.c
noncomputable abbrev tcR (S : Sy) (c : XC) (st : XSt) : XS := @xcmd S xtabS (@xcall S xtabS 400) c st.env st.h st.m st.s 0
end Go.Proofs.YtmpgfgemnhbkhaaGreatDoor
