/-
  NARROWER THAN 'FOR EVERY INPUT', by the rows' own cells (each row's printed sentence says how): AsmParses: laid · AsmEnds: laid · AsmJoins: laid · AsmNumbers: laid.
  DERIVED. THE GIVEN ROWS OF THIS SEAT. 4 by the template 'for every input the law returns true; each argument reads behind the call as it read before'; 0 by the template 'total and deterministic' (their statements: YtpannhipchnhaaaGreatDoorTotals.lean).
  GIVEN WITH THE SEED: the statements are not yours to turn. If you find one false, say at which input.
  Laid BY PROGRAM, IN A SANDBOX (cutbox-rows.mjs): the forced cells as the released guide's own fill.sh prints them over the translation f37ed8d0601b36ad… (all of the seat's roots in one cut). By AI agents, Wed Nov 11 2026. No macro, syntax, notation, axiom, sorry.
-/
import Derived.Test.YtpannhipchnhaaaGreatDoorChecked
import GoSem.PinnedTables
import GoSem.Claim
import GoSem.ClaimJoined
import GoSem.ClaimMapViews
import Derived.JoinedTies
import Derived.KernelRfl
namespace Go.Proofs.YtpannhipchnhaaaGreatDoor
/- THE CELL 'sum', in the pinned program and in every row, IS THE sha256 OF THE DUMP (.gsa) THAT YtpannhipchnhaaaGreatDoorProg.lean LOADS. Nothing in Lean hashes anything: it is a label: what it is worth is what the hold of that sum in a sandbox is worth. -/
noncomputable def Tryz.pinned : Pinned := { name := "ytpannhipchnhaaagreatdoor", sum := "f37ed8d0601b36ad0db4bafaced44a8c384afd594941e1488fce4afd6c65d9a8", checked := Tryz.checked }
namespace Rows
def none {H : Type} : Left H := { results := [], args := [] }

/- WHAT THE LISTED PACKAGE-LEVEL VARIABLES READ AS WHEN THE CALL BEGINS. Each datum BY PROGRAM (the guide's laid-datum.mjs) off the statement by which the dump's own 'gosem.cut.vars' lays the variable. In a bare row this is a premise. The card (YtpannhipchnhaaaGreatDoorCards.lean) ties it to the program's text. -/
def laid_math_bits_deBruijn32tab {H : Type} : DataW H := .agg [.lit (.int .u8 0), .lit (.int .u8 1), .lit (.int .u8 28), .lit (.int .u8 2), .lit (.int .u8 29), .lit (.int .u8 14), .lit (.int .u8 24), .lit (.int .u8 3), .lit (.int .u8 30), .lit (.int .u8 22), .lit (.int .u8 20), .lit (.int .u8 15), .lit (.int .u8 25), .lit (.int .u8 17), .lit (.int .u8 4), .lit (.int .u8 8), .lit (.int .u8 31), .lit (.int .u8 27), .lit (.int .u8 13), .lit (.int .u8 23), .lit (.int .u8 21), .lit (.int .u8 19), .lit (.int .u8 16), .lit (.int .u8 7), .lit (.int .u8 26), .lit (.int .u8 12), .lit (.int .u8 18), .lit (.int .u8 6), .lit (.int .u8 11), .lit (.int .u8 5), .lit (.int .u8 10), .lit (.int .u8 9)]
def laid_math_bits_deBruijn64tab {H : Type} : DataW H := .agg [.lit (.int .u8 0), .lit (.int .u8 1), .lit (.int .u8 56), .lit (.int .u8 2), .lit (.int .u8 57), .lit (.int .u8 49), .lit (.int .u8 28), .lit (.int .u8 3), .lit (.int .u8 61), .lit (.int .u8 58), .lit (.int .u8 42), .lit (.int .u8 50), .lit (.int .u8 38), .lit (.int .u8 29), .lit (.int .u8 17), .lit (.int .u8 4), .lit (.int .u8 62), .lit (.int .u8 47), .lit (.int .u8 59), .lit (.int .u8 36), .lit (.int .u8 45), .lit (.int .u8 43), .lit (.int .u8 51), .lit (.int .u8 22), .lit (.int .u8 53), .lit (.int .u8 39), .lit (.int .u8 33), .lit (.int .u8 30), .lit (.int .u8 24), .lit (.int .u8 18), .lit (.int .u8 12), .lit (.int .u8 5), .lit (.int .u8 63), .lit (.int .u8 55), .lit (.int .u8 48), .lit (.int .u8 27), .lit (.int .u8 60), .lit (.int .u8 41), .lit (.int .u8 37), .lit (.int .u8 16), .lit (.int .u8 46), .lit (.int .u8 35), .lit (.int .u8 44), .lit (.int .u8 21), .lit (.int .u8 52), .lit (.int .u8 32), .lit (.int .u8 23), .lit (.int .u8 11), .lit (.int .u8 54), .lit (.int .u8 26), .lit (.int .u8 40), .lit (.int .u8 15), .lit (.int .u8 34), .lit (.int .u8 20), .lit (.int .u8 31), .lit (.int .u8 10), .lit (.int .u8 25), .lit (.int .u8 14), .lit (.int .u8 19), .lit (.int .u8 9), .lit (.int .u8 13), .lit (.int .u8 8), .lit (.int .u8 7), .lit (.int .u8 6)]
def laid_internal_strconv_uint64pow10 {H : Type} : DataW H := .agg [.lit (.int .u64 1), .lit (.int .u64 10), .lit (.int .u64 100), .lit (.int .u64 1000), .lit (.int .u64 10000), .lit (.int .u64 100000), .lit (.int .u64 1000000), .lit (.int .u64 10000000), .lit (.int .u64 100000000), .lit (.int .u64 1000000000), .lit (.int .u64 10000000000), .lit (.int .u64 100000000000), .lit (.int .u64 1000000000000), .lit (.int .u64 10000000000000), .lit (.int .u64 100000000000000), .lit (.int .u64 1000000000000000), .lit (.int .u64 10000000000000000), .lit (.int .u64 100000000000000000), .lit (.int .u64 1000000000000000000), .lit (.int .u64 10000000000000000000)]
def laid_unicode_utf8_acceptRanges {H : Type} : DataW H := .agg [.agg [.lit (.int .u8 128), .lit (.int .u8 191)], .agg [.lit (.int .u8 160), .lit (.int .u8 191)], .agg [.lit (.int .u8 128), .lit (.int .u8 159)], .agg [.lit (.int .u8 144), .lit (.int .u8 191)], .agg [.lit (.int .u8 128), .lit (.int .u8 143)], .agg [.lit (.int .u8 0), .lit (.int .u8 0)], .agg [.lit (.int .u8 0), .lit (.int .u8 0)], .agg [.lit (.int .u8 0), .lit (.int .u8 0)], .agg [.lit (.int .u8 0), .lit (.int .u8 0)], .agg [.lit (.int .u8 0), .lit (.int .u8 0)], .agg [.lit (.int .u8 0), .lit (.int .u8 0)], .agg [.lit (.int .u8 0), .lit (.int .u8 0)], .agg [.lit (.int .u8 0), .lit (.int .u8 0)], .agg [.lit (.int .u8 0), .lit (.int .u8 0)], .agg [.lit (.int .u8 0), .lit (.int .u8 0)], .agg [.lit (.int .u8 0), .lit (.int .u8 0)]]
def laid_strconv_ErrRange {H : Type} : DataW H := .iface "*errors.errorString" (.ptr (.agg [.lit (.string [118, 97, 108, 117, 101, 32, 111, 117, 116, 32, 111, 102, 32, 114, 97, 110, 103, 101])]))
def laid_strconv_ErrSyntax {H : Type} : DataW H := .iface "*errors.errorString" (.ptr (.agg [.lit (.string [105, 110, 118, 97, 108, 105, 100, 32, 115, 121, 110, 116, 97, 120])]))
def laid_tipstaff_asm_alus {H : Type} : DataW H := .agg [.lit (.string [97, 100, 100]), .lit (.string [115, 117, 98]), .lit (.string [109, 117, 108]), .lit (.string [100, 105, 118]), .lit (.string [111, 114]), .lit (.string [97, 110, 100]), .lit (.string [108, 115, 104]), .lit (.string [114, 115, 104]), .lit (.string [110, 101, 103]), .lit (.string [109, 111, 100]), .lit (.string [120, 111, 114]), .lit (.string [109, 111, 118]), .lit (.string [97, 114, 115, 104])]
def laid_tipstaff_asm_jumps {H : Type} : DataW H := .agg [.lit (.string []), .lit (.string [106, 101, 113]), .lit (.string [106, 103, 116]), .lit (.string [106, 103, 101]), .lit (.string [106, 115, 101, 116]), .lit (.string [106, 110, 101]), .lit (.string [106, 115, 103, 116]), .lit (.string [106, 115, 103, 101]), .lit (.string []), .lit (.string []), .lit (.string [106, 108, 116]), .lit (.string [106, 108, 101]), .lit (.string [106, 115, 108, 116]), .lit (.string [106, 115, 108, 101])]
def laid_tipstaff_asm_atomics {H : Type} : DataW H := .agg [.lit (.string [97, 97, 100, 100]), .lit (.string [97, 111, 114]), .lit (.string [97, 97, 110, 100]), .lit (.string [97, 120, 111, 114])]
def laid_tipstaff_asm_atoms {H : Type} : DataW H := .agg [.lit (.int .i32 0), .lit (.int .i32 64), .lit (.int .i32 80), .lit (.int .i32 160)]
def laid_tipstaff_asm_sizes {H : Type} : DataW H := .agg [.lit (.string [52]), .lit (.string [50]), .lit (.string [49]), .lit (.string [56])]
/-- One of Go's own tables, pinned by name: the form's constant. -/
def laid_unicode_utf8_first : DataW Unit := Go.Pinned.utf8First

/-- 'tipstafflaw23.AsmParses': WHATEVER THE INPUT: true; the input reads as it did. -/
def asmParsesSpec : ChangeSpec := { name := "asmParses", fn := fun _ => fun
  | [d] => { results := [.lit (.bool true)], args := [d] }
  | _ => none }
def asmParsesRow : OpenClaim := { program := "ytpannhipchnhaaagreatdoor", sum := "f37ed8d0601b36ad0db4bafaced44a8c384afd594941e1488fce4afd6c65d9a8", func := "tipstaff/tipstafflaw23.AsmParses", spec := "asmParses", inPlace := ["internal/bytealg.IndexByteString", "internal/bytealg.IndexString", "internal/bytealg.CountString", "internal/abi.NoEscape", "internal/bytealg.MakeNoZero"], named := ["internal/bytealg.MaxLen", "unicode/utf8.first", "unicode/utf8.acceptRanges", "tipstaff/asm.alus", "tipstaff/asm.jumps", "tipstaff/asm.sizes", "strconv.ErrSyntax", "strconv.ErrRange", "internal/strconv.uint64pow10", "math/bits.deBruijn32tab", "math/bits.deBruijn64tab", "tipstaff/asm.atomics", "tipstaff/asm.atoms"], apart := false, laid := [("math/bits.deBruijn32tab", laid_math_bits_deBruijn32tab), ("math/bits.deBruijn64tab", laid_math_bits_deBruijn64tab), ("internal/strconv.uint64pow10", laid_internal_strconv_uint64pow10), ("unicode/utf8.acceptRanges", laid_unicode_utf8_acceptRanges), ("strconv.ErrRange", laid_strconv_ErrRange), ("strconv.ErrSyntax", laid_strconv_ErrSyntax), ("tipstaff/asm.alus", laid_tipstaff_asm_alus), ("tipstaff/asm.jumps", laid_tipstaff_asm_jumps), ("tipstaff/asm.atomics", laid_tipstaff_asm_atomics), ("tipstaff/asm.atoms", laid_tipstaff_asm_atoms), ("tipstaff/asm.sizes", laid_tipstaff_asm_sizes), ("unicode/utf8.first", laid_unicode_utf8_first)] }
def AsmParsesSaid : Prop := asmParsesRow.holds Tryz.pinned (OpenSpec.ofChange asmParsesSpec)

/-- ITS FALSE NEIGHBOUR: 'it returns false'. Refute it at one input. -/
def asmParsesWrong : ChangeSpec := { name := "asmParses", fn := fun _ => fun
  | [d] => { results := [.lit (.bool false)], args := [d] }
  | _ => none }
def AsmParsesWrongFalsely : Prop := asmParsesRow.holds Tryz.pinned (OpenSpec.ofChange asmParsesWrong)

/-- 'tipstafflaw23.AsmEnds': WHATEVER THE INPUT: true; the input reads as it did. -/
def asmEndsSpec : ChangeSpec := { name := "asmEnds", fn := fun _ => fun
  | [d1, d2] => { results := [.lit (.bool true)], args := [d1, d2] }
  | _ => none }
def asmEndsRow : OpenClaim := { program := "ytpannhipchnhaaagreatdoor", sum := "f37ed8d0601b36ad0db4bafaced44a8c384afd594941e1488fce4afd6c65d9a8", func := "tipstaff/tipstafflaw23.AsmEnds", spec := "asmEnds", inPlace := ["internal/bytealg.IndexByteString", "internal/bytealg.IndexString", "internal/bytealg.CountString", "internal/abi.NoEscape", "internal/bytealg.MakeNoZero"], named := ["internal/bytealg.MaxLen", "unicode/utf8.first", "unicode/utf8.acceptRanges", "tipstaff/asm.alus", "tipstaff/asm.jumps", "tipstaff/asm.sizes", "strconv.ErrSyntax", "strconv.ErrRange", "internal/strconv.uint64pow10", "math/bits.deBruijn32tab", "math/bits.deBruijn64tab", "tipstaff/asm.atomics", "tipstaff/asm.atoms"], apart := false, laid := [("math/bits.deBruijn32tab", laid_math_bits_deBruijn32tab), ("math/bits.deBruijn64tab", laid_math_bits_deBruijn64tab), ("internal/strconv.uint64pow10", laid_internal_strconv_uint64pow10), ("unicode/utf8.acceptRanges", laid_unicode_utf8_acceptRanges), ("strconv.ErrRange", laid_strconv_ErrRange), ("strconv.ErrSyntax", laid_strconv_ErrSyntax), ("tipstaff/asm.alus", laid_tipstaff_asm_alus), ("tipstaff/asm.jumps", laid_tipstaff_asm_jumps), ("tipstaff/asm.atomics", laid_tipstaff_asm_atomics), ("tipstaff/asm.atoms", laid_tipstaff_asm_atoms), ("tipstaff/asm.sizes", laid_tipstaff_asm_sizes), ("unicode/utf8.first", laid_unicode_utf8_first)] }
def AsmEndsSaid : Prop := asmEndsRow.holds Tryz.pinned (OpenSpec.ofChange asmEndsSpec)

/-- ITS FALSE NEIGHBOUR: 'it returns false'. Refute it at one input. -/
def asmEndsWrong : ChangeSpec := { name := "asmEnds", fn := fun _ => fun
  | [d1, d2] => { results := [.lit (.bool false)], args := [d1, d2] }
  | _ => none }
def AsmEndsWrongFalsely : Prop := asmEndsRow.holds Tryz.pinned (OpenSpec.ofChange asmEndsWrong)

/-- 'tipstafflaw23.AsmJoins': WHATEVER THE INPUT: true; the input reads as it did. -/
def asmJoinsSpec : ChangeSpec := { name := "asmJoins", fn := fun _ => fun
  | [d1, d2] => { results := [.lit (.bool true)], args := [d1, d2] }
  | _ => none }
def asmJoinsRow : OpenClaim := { program := "ytpannhipchnhaaagreatdoor", sum := "f37ed8d0601b36ad0db4bafaced44a8c384afd594941e1488fce4afd6c65d9a8", func := "tipstaff/tipstafflaw23.AsmJoins", spec := "asmJoins", inPlace := ["internal/abi.NoEscape", "internal/bytealg.MakeNoZero", "internal/bytealg.IndexByteString", "internal/bytealg.IndexString", "internal/bytealg.CountString"], named := ["tipstaff/asm.alus", "tipstaff/asm.jumps", "tipstaff/asm.atoms", "tipstaff/asm.atomics", "internal/strconv.uint64pow10", "math/bits.deBruijn32tab", "math/bits.deBruijn64tab", "internal/bytealg.MaxLen", "unicode/utf8.first", "unicode/utf8.acceptRanges", "tipstaff/asm.sizes", "strconv.ErrSyntax", "strconv.ErrRange"], apart := false, laid := [("math/bits.deBruijn32tab", laid_math_bits_deBruijn32tab), ("math/bits.deBruijn64tab", laid_math_bits_deBruijn64tab), ("internal/strconv.uint64pow10", laid_internal_strconv_uint64pow10), ("unicode/utf8.acceptRanges", laid_unicode_utf8_acceptRanges), ("strconv.ErrRange", laid_strconv_ErrRange), ("strconv.ErrSyntax", laid_strconv_ErrSyntax), ("tipstaff/asm.alus", laid_tipstaff_asm_alus), ("tipstaff/asm.jumps", laid_tipstaff_asm_jumps), ("tipstaff/asm.atomics", laid_tipstaff_asm_atomics), ("tipstaff/asm.atoms", laid_tipstaff_asm_atoms), ("tipstaff/asm.sizes", laid_tipstaff_asm_sizes), ("unicode/utf8.first", laid_unicode_utf8_first)] }
def AsmJoinsSaid : Prop := asmJoinsRow.holds Tryz.pinned (OpenSpec.ofChange asmJoinsSpec)

/-- ITS FALSE NEIGHBOUR: 'it returns false'. Refute it at one input. -/
def asmJoinsWrong : ChangeSpec := { name := "asmJoins", fn := fun _ => fun
  | [d1, d2] => { results := [.lit (.bool false)], args := [d1, d2] }
  | _ => none }
def AsmJoinsWrongFalsely : Prop := asmJoinsRow.holds Tryz.pinned (OpenSpec.ofChange asmJoinsWrong)

/-- 'tipstafflaw23.AsmNumbers': WHATEVER THE INPUT: true; the input reads as it did. -/
def asmNumbersSpec : ChangeSpec := { name := "asmNumbers", fn := fun _ => fun
  | [d1, d2, d3] => { results := [.lit (.bool true)], args := [d1, d2, d3] }
  | _ => none }
def asmNumbersRow : OpenClaim := { program := "ytpannhipchnhaaagreatdoor", sum := "f37ed8d0601b36ad0db4bafaced44a8c384afd594941e1488fce4afd6c65d9a8", func := "tipstaff/tipstafflaw23.AsmNumbers", spec := "asmNumbers", inPlace := ["internal/abi.NoEscape", "internal/bytealg.MakeNoZero", "internal/bytealg.IndexByteString", "internal/bytealg.IndexString", "internal/bytealg.CountString"], named := ["tipstaff/asm.alus", "tipstaff/asm.jumps", "tipstaff/asm.atoms", "tipstaff/asm.atomics", "internal/strconv.uint64pow10", "math/bits.deBruijn32tab", "math/bits.deBruijn64tab", "internal/bytealg.MaxLen", "unicode/utf8.first", "unicode/utf8.acceptRanges", "tipstaff/asm.sizes", "strconv.ErrSyntax", "strconv.ErrRange"], apart := false, laid := [("math/bits.deBruijn32tab", laid_math_bits_deBruijn32tab), ("math/bits.deBruijn64tab", laid_math_bits_deBruijn64tab), ("internal/strconv.uint64pow10", laid_internal_strconv_uint64pow10), ("unicode/utf8.acceptRanges", laid_unicode_utf8_acceptRanges), ("strconv.ErrRange", laid_strconv_ErrRange), ("strconv.ErrSyntax", laid_strconv_ErrSyntax), ("tipstaff/asm.alus", laid_tipstaff_asm_alus), ("tipstaff/asm.jumps", laid_tipstaff_asm_jumps), ("tipstaff/asm.atomics", laid_tipstaff_asm_atomics), ("tipstaff/asm.atoms", laid_tipstaff_asm_atoms), ("tipstaff/asm.sizes", laid_tipstaff_asm_sizes), ("unicode/utf8.first", laid_unicode_utf8_first)] }
def AsmNumbersSaid : Prop := asmNumbersRow.holds Tryz.pinned (OpenSpec.ofChange asmNumbersSpec)

/-- ITS FALSE NEIGHBOUR: 'it returns false'. Refute it at one input. -/
def asmNumbersWrong : ChangeSpec := { name := "asmNumbers", fn := fun _ => fun
  | [d1, d2, d3] => { results := [.lit (.bool false)], args := [d1, d2, d3] }
  | _ => none }
def AsmNumbersWrongFalsely : Prop := asmNumbersRow.holds Tryz.pinned (OpenSpec.ofChange asmNumbersWrong)

/- THE SECOND FORM. 'bulk': how many values and letters a reading holds, each counted each time it is reached (what is shared counts as often as it is met; a slice's spare places count too). A statement '..UptoSaid' is the law's where the arguments, and the package variables that the reading takes, are together of bulk at most 1048576: NARROWER than '..Said'. Prove '..Said' where nothing that the law and all that it calls make is longer than what came in: it says more and counts as full. Else prove '..UptoSaid'. A law counts once. -/
mutual
def uptoBulk {H : Type} : DataW H → Nat
  | .lit (.string bytes) => bytes.length + 1
  | .lit _ => 1
  | .nil => 1
  | .ptr d => uptoBulk d + 1
  | .slice elems spare => uptoBulkAll elems + uptoBulkAll spare + 1
  | .agg parts => uptoBulkAll parts + 1
  | .iface _ d => uptoBulk d + 1
  | .map entries => uptoBulkEntries entries + 1
  | .held _ => 1
def uptoBulkAll {H : Type} : List (DataW H) → Nat
  | [] => 0
  | d :: r => uptoBulk d + uptoBulkAll r
def uptoBulkEntries {H : Type} : List (Lit × DataW H) → Nat
  | [] => 0
  | x :: r => uptoBulkEntry x + uptoBulkEntries r
def uptoBulkEntry {H : Type} : Lit × DataW H → Nat
  | (.string bytes, d) => bytes.length + uptoBulk d + 1
  | (_, d) => uptoBulk d + 1
 end
def uptoSmall : (H : Type) → List (DataW H) → Bool := fun _ ds => decide (uptoBulkAll ds ≤ 1048576)
def OpenSpec.upto (s : _root_.Go.ChangeSpec) : _root_.Go.OpenSpec := { _root_.Go.OpenSpec.ofChange s with cond := some uptoSmall }

/-- 'tipstafflaw23.AsmParses', WHERE WHAT IT READS IS OF BULK AT MOST 1048576: true; the input reads as it did. -/
def asmParsesUptoRow : OpenClaim := { program := "ytpannhipchnhaaagreatdoor", sum := "f37ed8d0601b36ad0db4bafaced44a8c384afd594941e1488fce4afd6c65d9a8", func := "tipstaff/tipstafflaw23.AsmParses", spec := "asmParses", inPlace := ["internal/bytealg.IndexByteString", "internal/bytealg.IndexString", "internal/bytealg.CountString", "internal/abi.NoEscape", "internal/bytealg.MakeNoZero"], named := ["internal/bytealg.MaxLen", "unicode/utf8.first", "unicode/utf8.acceptRanges", "tipstaff/asm.alus", "tipstaff/asm.jumps", "tipstaff/asm.sizes", "strconv.ErrSyntax", "strconv.ErrRange", "internal/strconv.uint64pow10", "math/bits.deBruijn32tab", "math/bits.deBruijn64tab", "tipstaff/asm.atomics", "tipstaff/asm.atoms"], apart := false, laid := [("math/bits.deBruijn32tab", laid_math_bits_deBruijn32tab), ("math/bits.deBruijn64tab", laid_math_bits_deBruijn64tab), ("internal/strconv.uint64pow10", laid_internal_strconv_uint64pow10), ("unicode/utf8.acceptRanges", laid_unicode_utf8_acceptRanges), ("strconv.ErrRange", laid_strconv_ErrRange), ("strconv.ErrSyntax", laid_strconv_ErrSyntax), ("tipstaff/asm.alus", laid_tipstaff_asm_alus), ("tipstaff/asm.jumps", laid_tipstaff_asm_jumps), ("tipstaff/asm.atomics", laid_tipstaff_asm_atomics), ("tipstaff/asm.atoms", laid_tipstaff_asm_atoms), ("tipstaff/asm.sizes", laid_tipstaff_asm_sizes), ("unicode/utf8.first", laid_unicode_utf8_first)], narrowed := true }
def AsmParsesUptoSaid : Prop := asmParsesUptoRow.holds Tryz.pinned (OpenSpec.upto asmParsesSpec)

/-- 'tipstafflaw23.AsmEnds', WHERE WHAT IT READS IS OF BULK AT MOST 1048576: true; the input reads as it did. -/
def asmEndsUptoRow : OpenClaim := { program := "ytpannhipchnhaaagreatdoor", sum := "f37ed8d0601b36ad0db4bafaced44a8c384afd594941e1488fce4afd6c65d9a8", func := "tipstaff/tipstafflaw23.AsmEnds", spec := "asmEnds", inPlace := ["internal/bytealg.IndexByteString", "internal/bytealg.IndexString", "internal/bytealg.CountString", "internal/abi.NoEscape", "internal/bytealg.MakeNoZero"], named := ["internal/bytealg.MaxLen", "unicode/utf8.first", "unicode/utf8.acceptRanges", "tipstaff/asm.alus", "tipstaff/asm.jumps", "tipstaff/asm.sizes", "strconv.ErrSyntax", "strconv.ErrRange", "internal/strconv.uint64pow10", "math/bits.deBruijn32tab", "math/bits.deBruijn64tab", "tipstaff/asm.atomics", "tipstaff/asm.atoms"], apart := false, laid := [("math/bits.deBruijn32tab", laid_math_bits_deBruijn32tab), ("math/bits.deBruijn64tab", laid_math_bits_deBruijn64tab), ("internal/strconv.uint64pow10", laid_internal_strconv_uint64pow10), ("unicode/utf8.acceptRanges", laid_unicode_utf8_acceptRanges), ("strconv.ErrRange", laid_strconv_ErrRange), ("strconv.ErrSyntax", laid_strconv_ErrSyntax), ("tipstaff/asm.alus", laid_tipstaff_asm_alus), ("tipstaff/asm.jumps", laid_tipstaff_asm_jumps), ("tipstaff/asm.atomics", laid_tipstaff_asm_atomics), ("tipstaff/asm.atoms", laid_tipstaff_asm_atoms), ("tipstaff/asm.sizes", laid_tipstaff_asm_sizes), ("unicode/utf8.first", laid_unicode_utf8_first)], narrowed := true }
def AsmEndsUptoSaid : Prop := asmEndsUptoRow.holds Tryz.pinned (OpenSpec.upto asmEndsSpec)

/-- 'tipstafflaw23.AsmJoins', WHERE WHAT IT READS IS OF BULK AT MOST 1048576: true; the input reads as it did. -/
def asmJoinsUptoRow : OpenClaim := { program := "ytpannhipchnhaaagreatdoor", sum := "f37ed8d0601b36ad0db4bafaced44a8c384afd594941e1488fce4afd6c65d9a8", func := "tipstaff/tipstafflaw23.AsmJoins", spec := "asmJoins", inPlace := ["internal/abi.NoEscape", "internal/bytealg.MakeNoZero", "internal/bytealg.IndexByteString", "internal/bytealg.IndexString", "internal/bytealg.CountString"], named := ["tipstaff/asm.alus", "tipstaff/asm.jumps", "tipstaff/asm.atoms", "tipstaff/asm.atomics", "internal/strconv.uint64pow10", "math/bits.deBruijn32tab", "math/bits.deBruijn64tab", "internal/bytealg.MaxLen", "unicode/utf8.first", "unicode/utf8.acceptRanges", "tipstaff/asm.sizes", "strconv.ErrSyntax", "strconv.ErrRange"], apart := false, laid := [("math/bits.deBruijn32tab", laid_math_bits_deBruijn32tab), ("math/bits.deBruijn64tab", laid_math_bits_deBruijn64tab), ("internal/strconv.uint64pow10", laid_internal_strconv_uint64pow10), ("unicode/utf8.acceptRanges", laid_unicode_utf8_acceptRanges), ("strconv.ErrRange", laid_strconv_ErrRange), ("strconv.ErrSyntax", laid_strconv_ErrSyntax), ("tipstaff/asm.alus", laid_tipstaff_asm_alus), ("tipstaff/asm.jumps", laid_tipstaff_asm_jumps), ("tipstaff/asm.atomics", laid_tipstaff_asm_atomics), ("tipstaff/asm.atoms", laid_tipstaff_asm_atoms), ("tipstaff/asm.sizes", laid_tipstaff_asm_sizes), ("unicode/utf8.first", laid_unicode_utf8_first)], narrowed := true }
def AsmJoinsUptoSaid : Prop := asmJoinsUptoRow.holds Tryz.pinned (OpenSpec.upto asmJoinsSpec)

/-- 'tipstafflaw23.AsmNumbers', WHERE WHAT IT READS IS OF BULK AT MOST 1048576: true; the input reads as it did. -/
def asmNumbersUptoRow : OpenClaim := { program := "ytpannhipchnhaaagreatdoor", sum := "f37ed8d0601b36ad0db4bafaced44a8c384afd594941e1488fce4afd6c65d9a8", func := "tipstaff/tipstafflaw23.AsmNumbers", spec := "asmNumbers", inPlace := ["internal/abi.NoEscape", "internal/bytealg.MakeNoZero", "internal/bytealg.IndexByteString", "internal/bytealg.IndexString", "internal/bytealg.CountString"], named := ["tipstaff/asm.alus", "tipstaff/asm.jumps", "tipstaff/asm.atoms", "tipstaff/asm.atomics", "internal/strconv.uint64pow10", "math/bits.deBruijn32tab", "math/bits.deBruijn64tab", "internal/bytealg.MaxLen", "unicode/utf8.first", "unicode/utf8.acceptRanges", "tipstaff/asm.sizes", "strconv.ErrSyntax", "strconv.ErrRange"], apart := false, laid := [("math/bits.deBruijn32tab", laid_math_bits_deBruijn32tab), ("math/bits.deBruijn64tab", laid_math_bits_deBruijn64tab), ("internal/strconv.uint64pow10", laid_internal_strconv_uint64pow10), ("unicode/utf8.acceptRanges", laid_unicode_utf8_acceptRanges), ("strconv.ErrRange", laid_strconv_ErrRange), ("strconv.ErrSyntax", laid_strconv_ErrSyntax), ("tipstaff/asm.alus", laid_tipstaff_asm_alus), ("tipstaff/asm.jumps", laid_tipstaff_asm_jumps), ("tipstaff/asm.atomics", laid_tipstaff_asm_atomics), ("tipstaff/asm.atoms", laid_tipstaff_asm_atoms), ("tipstaff/asm.sizes", laid_tipstaff_asm_sizes), ("unicode/utf8.first", laid_unicode_utf8_first)], narrowed := true }
def AsmNumbersUptoSaid : Prop := asmNumbersUptoRow.holds Tryz.pinned (OpenSpec.upto asmNumbersSpec)

end Rows
end Go.Proofs.YtpannhipchnhaaaGreatDoor
