/-
  NARROWER THAN 'FOR EVERY INPUT', by the rows' own cells (each row's printed sentence says how): TipstaffQueues: laid · TipstaffCounts: laid · LoaderHeld: laid · GateChain: laid · GateHeld: laid · GateFull: laid · GateFrozen: laid · GateRights: laid · GateFirsts: laid.
  DERIVED. THE GIVEN ROWS OF THIS SEAT. 9 by the template 'for every input the law returns true; each argument reads behind the call as it read before'; 0 by the template 'total and deterministic' (their statements: YtmpgfgemnhbkhaaGreatDoorTotals.lean).
  GIVEN WITH THE SEED: the statements are not yours to turn. If you find one false, say at which input.
  Laid BY PROGRAM, IN A SANDBOX (cutbox-rows.mjs): the forced cells as the released guide's own fill.sh prints them over the translation 2219601ed7c46372… (all of the seat's roots in one cut). By AI agents, Wed Nov 11 2026. No macro, syntax, notation, axiom, sorry.
-/
import Derived.Test.YtmpgfgemnhbkhaaGreatDoorChecked
import GoSem.Claim
import GoSem.ClaimJoined
import GoSem.ClaimMapViews
import Derived.JoinedTies
import Derived.KernelRfl
namespace Go.Proofs.YtmpgfgemnhbkhaaGreatDoor
/- THE CELL 'sum', in the pinned program and in every row, IS THE sha256 OF THE DUMP (.gsa) THAT YtmpgfgemnhbkhaaGreatDoorProg.lean LOADS. Nothing in Lean hashes anything: it is a label: what it is worth is what the hold of that sum in a sandbox is worth. -/
noncomputable def Tryz.pinned : Pinned := { name := "ytmpgfgemnhbkhaagreatdoor", sum := "2219601ed7c4637230aa1e992328b801bb09f35f3e48b96ac20dc6918a2c71f1", checked := Tryz.checked }
namespace Rows
def none {H : Type} : Left H := { results := [], args := [] }

/- WHAT THE LISTED PACKAGE-LEVEL VARIABLES READ AS WHEN THE CALL BEGINS. Each datum BY PROGRAM (the guide's laid-datum.mjs) off the statement by which the dump's own 'gosem.cut.vars' lays the variable. In a bare row this is a premise. The card (YtmpgfgemnhbkhaaGreatDoorCards.lean) ties it to the program's text. -/
def laid_tipstaff_digest_k {H : Type} : DataW H := .agg [.lit (.int .u32 1116352408), .lit (.int .u32 1899447441), .lit (.int .u32 3049323471), .lit (.int .u32 3921009573), .lit (.int .u32 961987163), .lit (.int .u32 1508970993), .lit (.int .u32 2453635748), .lit (.int .u32 2870763221), .lit (.int .u32 3624381080), .lit (.int .u32 310598401), .lit (.int .u32 607225278), .lit (.int .u32 1426881987), .lit (.int .u32 1925078388), .lit (.int .u32 2162078206), .lit (.int .u32 2614888103), .lit (.int .u32 3248222580), .lit (.int .u32 3835390401), .lit (.int .u32 4022224774), .lit (.int .u32 264347078), .lit (.int .u32 604807628), .lit (.int .u32 770255983), .lit (.int .u32 1249150122), .lit (.int .u32 1555081692), .lit (.int .u32 1996064986), .lit (.int .u32 2554220882), .lit (.int .u32 2821834349), .lit (.int .u32 2952996808), .lit (.int .u32 3210313671), .lit (.int .u32 3336571891), .lit (.int .u32 3584528711), .lit (.int .u32 113926993), .lit (.int .u32 338241895), .lit (.int .u32 666307205), .lit (.int .u32 773529912), .lit (.int .u32 1294757372), .lit (.int .u32 1396182291), .lit (.int .u32 1695183700), .lit (.int .u32 1986661051), .lit (.int .u32 2177026350), .lit (.int .u32 2456956037), .lit (.int .u32 2730485921), .lit (.int .u32 2820302411), .lit (.int .u32 3259730800), .lit (.int .u32 3345764771), .lit (.int .u32 3516065817), .lit (.int .u32 3600352804), .lit (.int .u32 4094571909), .lit (.int .u32 275423344), .lit (.int .u32 430227734), .lit (.int .u32 506948616), .lit (.int .u32 659060556), .lit (.int .u32 883997877), .lit (.int .u32 958139571), .lit (.int .u32 1322822218), .lit (.int .u32 1537002063), .lit (.int .u32 1747873779), .lit (.int .u32 1955562222), .lit (.int .u32 2024104815), .lit (.int .u32 2227730452), .lit (.int .u32 2361852424), .lit (.int .u32 2428436474), .lit (.int .u32 2756734187), .lit (.int .u32 3204031479), .lit (.int .u32 3329325298)]
def laid_tipstaff_digest_begin {H : Type} : DataW H := .agg [.lit (.int .u32 1779033703), .lit (.int .u32 3144134277), .lit (.int .u32 1013904242), .lit (.int .u32 2773480762), .lit (.int .u32 1359893119), .lit (.int .u32 2600822924), .lit (.int .u32 528734635), .lit (.int .u32 1541459225)]
def laid_tipstaff_rights_helpers {H : Type} : DataW H := .agg [.lit (.int .i32 1), .lit (.int .i32 2), .lit (.int .i32 3), .lit (.int .i32 5), .lit (.int .i32 7), .lit (.int .i32 87), .lit (.int .i32 88), .lit (.int .i32 89)]

/-- 'tipstafftop.TipstaffQueues': WHATEVER THE INPUT: true; the input reads as it did. -/
def tipstaffQueuesSpec : ChangeSpec := { name := "tipstaffQueues", fn := fun _ => fun
  | [d1, d2] => { results := [.lit (.bool true)], args := [d1, d2] }
  | _ => none }
def tipstaffQueuesRow : OpenClaim := { program := "ytmpgfgemnhbkhaagreatdoor", sum := "2219601ed7c4637230aa1e992328b801bb09f35f3e48b96ac20dc6918a2c71f1", func := "tipstaff/tipstafftop.TipstaffQueues", spec := "tipstaffQueues", inPlace := ["math/bits.Add64"], unfollowed := true, recurses := true, named := ["tipstaff/digest.begin", "tipstaff/digest.k"], apart := false, laid := [("tipstaff/digest.k", laid_tipstaff_digest_k), ("tipstaff/digest.begin", laid_tipstaff_digest_begin)] }
def TipstaffQueuesSaid : Prop := tipstaffQueuesRow.holds Tryz.pinned (OpenSpec.ofChange tipstaffQueuesSpec)

/-- ITS FALSE NEIGHBOUR: 'it returns false'. Refute it at one input. -/
def tipstaffQueuesWrong : ChangeSpec := { name := "tipstaffQueues", fn := fun _ => fun
  | [d1, d2] => { results := [.lit (.bool false)], args := [d1, d2] }
  | _ => none }
def TipstaffQueuesWrongFalsely : Prop := tipstaffQueuesRow.holds Tryz.pinned (OpenSpec.ofChange tipstaffQueuesWrong)

/-- 'tipstafftop.TipstaffCounts': WHATEVER THE INPUT: true; the input reads as it did. -/
def tipstaffCountsSpec : ChangeSpec := { name := "tipstaffCounts", fn := fun _ => fun
  | [d1, d2] => { results := [.lit (.bool true)], args := [d1, d2] }
  | _ => none }
def tipstaffCountsRow : OpenClaim := { program := "ytmpgfgemnhbkhaagreatdoor", sum := "2219601ed7c4637230aa1e992328b801bb09f35f3e48b96ac20dc6918a2c71f1", func := "tipstaff/tipstafftop.TipstaffCounts", spec := "tipstaffCounts", inPlace := ["math/bits.Add64"], unfollowed := true, recurses := true, named := ["tipstaff/digest.begin", "tipstaff/digest.k"], apart := false, laid := [("tipstaff/digest.k", laid_tipstaff_digest_k), ("tipstaff/digest.begin", laid_tipstaff_digest_begin)] }
def TipstaffCountsSaid : Prop := tipstaffCountsRow.holds Tryz.pinned (OpenSpec.ofChange tipstaffCountsSpec)

/-- ITS FALSE NEIGHBOUR: 'it returns false'. Refute it at one input. -/
def tipstaffCountsWrong : ChangeSpec := { name := "tipstaffCounts", fn := fun _ => fun
  | [d1, d2] => { results := [.lit (.bool false)], args := [d1, d2] }
  | _ => none }
def TipstaffCountsWrongFalsely : Prop := tipstaffCountsRow.holds Tryz.pinned (OpenSpec.ofChange tipstaffCountsWrong)

/-- 'tipstafflaw21.LoaderHeld': WHATEVER THE INPUT: true; the input reads as it did. -/
def loaderHeldSpec : ChangeSpec := { name := "loaderHeld", fn := fun _ => fun
  | [d] => { results := [.lit (.bool true)], args := [d] }
  | _ => none }
def loaderHeldRow : OpenClaim := { program := "ytmpgfgemnhbkhaagreatdoor", sum := "2219601ed7c4637230aa1e992328b801bb09f35f3e48b96ac20dc6918a2c71f1", func := "tipstaff/tipstafflaw21.LoaderHeld", spec := "loaderHeld", inPlace := ["math/bits.Add64"], unfollowed := true, recurses := true, named := ["tipstaff/digest.begin", "tipstaff/digest.k", "tipstaff/rights.helpers"], apart := false, laid := [("tipstaff/digest.k", laid_tipstaff_digest_k), ("tipstaff/digest.begin", laid_tipstaff_digest_begin), ("tipstaff/rights.helpers", laid_tipstaff_rights_helpers)] }
def LoaderHeldSaid : Prop := loaderHeldRow.holds Tryz.pinned (OpenSpec.ofChange loaderHeldSpec)

/-- ITS FALSE NEIGHBOUR: 'it returns false'. Refute it at one input. -/
def loaderHeldWrong : ChangeSpec := { name := "loaderHeld", fn := fun _ => fun
  | [d] => { results := [.lit (.bool false)], args := [d] }
  | _ => none }
def LoaderHeldWrongFalsely : Prop := loaderHeldRow.holds Tryz.pinned (OpenSpec.ofChange loaderHeldWrong)

/-- 'tipstafflaw22.GateChain': WHATEVER THE INPUT: true; the input reads as it did. -/
def gateChainSpec : ChangeSpec := { name := "gateChain", fn := fun _ => fun
  | [d1, d2] => { results := [.lit (.bool true)], args := [d1, d2] }
  | _ => none }
def gateChainRow : OpenClaim := { program := "ytmpgfgemnhbkhaagreatdoor", sum := "2219601ed7c4637230aa1e992328b801bb09f35f3e48b96ac20dc6918a2c71f1", func := "tipstaff/tipstafflaw22.GateChain", spec := "gateChain", inPlace := ["math/bits.Add64"], unfollowed := true, recurses := true, named := ["tipstaff/digest.begin", "tipstaff/digest.k", "tipstaff/rights.helpers"], apart := false, laid := [("tipstaff/digest.k", laid_tipstaff_digest_k), ("tipstaff/digest.begin", laid_tipstaff_digest_begin), ("tipstaff/rights.helpers", laid_tipstaff_rights_helpers)] }
def GateChainSaid : Prop := gateChainRow.holds Tryz.pinned (OpenSpec.ofChange gateChainSpec)

/-- ITS FALSE NEIGHBOUR: 'it returns false'. Refute it at one input. -/
def gateChainWrong : ChangeSpec := { name := "gateChain", fn := fun _ => fun
  | [d1, d2] => { results := [.lit (.bool false)], args := [d1, d2] }
  | _ => none }
def GateChainWrongFalsely : Prop := gateChainRow.holds Tryz.pinned (OpenSpec.ofChange gateChainWrong)

/-- 'tipstafflaw22.GateHeld': WHATEVER THE INPUT: true; the input reads as it did. -/
def gateHeldSpec : ChangeSpec := { name := "gateHeld", fn := fun _ => fun
  | [d] => { results := [.lit (.bool true)], args := [d] }
  | _ => none }
def gateHeldRow : OpenClaim := { program := "ytmpgfgemnhbkhaagreatdoor", sum := "2219601ed7c4637230aa1e992328b801bb09f35f3e48b96ac20dc6918a2c71f1", func := "tipstaff/tipstafflaw22.GateHeld", spec := "gateHeld", inPlace := ["math/bits.Add64"], unfollowed := true, recurses := true, named := ["tipstaff/digest.begin", "tipstaff/digest.k", "tipstaff/rights.helpers"], apart := false, laid := [("tipstaff/digest.k", laid_tipstaff_digest_k), ("tipstaff/digest.begin", laid_tipstaff_digest_begin), ("tipstaff/rights.helpers", laid_tipstaff_rights_helpers)] }
def GateHeldSaid : Prop := gateHeldRow.holds Tryz.pinned (OpenSpec.ofChange gateHeldSpec)

/-- ITS FALSE NEIGHBOUR: 'it returns false'. Refute it at one input. -/
def gateHeldWrong : ChangeSpec := { name := "gateHeld", fn := fun _ => fun
  | [d] => { results := [.lit (.bool false)], args := [d] }
  | _ => none }
def GateHeldWrongFalsely : Prop := gateHeldRow.holds Tryz.pinned (OpenSpec.ofChange gateHeldWrong)

/-- 'tipstafflaw22.GateFull': WHATEVER THE INPUT: true; the input reads as it did. -/
def gateFullSpec : ChangeSpec := { name := "gateFull", fn := fun _ => fun
  | [d] => { results := [.lit (.bool true)], args := [d] }
  | _ => none }
def gateFullRow : OpenClaim := { program := "ytmpgfgemnhbkhaagreatdoor", sum := "2219601ed7c4637230aa1e992328b801bb09f35f3e48b96ac20dc6918a2c71f1", func := "tipstaff/tipstafflaw22.GateFull", spec := "gateFull", inPlace := ["math/bits.Add64"], unfollowed := true, recurses := true, named := ["tipstaff/digest.begin", "tipstaff/digest.k", "tipstaff/rights.helpers"], apart := false, laid := [("tipstaff/digest.k", laid_tipstaff_digest_k), ("tipstaff/digest.begin", laid_tipstaff_digest_begin), ("tipstaff/rights.helpers", laid_tipstaff_rights_helpers)] }
def GateFullSaid : Prop := gateFullRow.holds Tryz.pinned (OpenSpec.ofChange gateFullSpec)

/-- ITS FALSE NEIGHBOUR: 'it returns false'. Refute it at one input. -/
def gateFullWrong : ChangeSpec := { name := "gateFull", fn := fun _ => fun
  | [d] => { results := [.lit (.bool false)], args := [d] }
  | _ => none }
def GateFullWrongFalsely : Prop := gateFullRow.holds Tryz.pinned (OpenSpec.ofChange gateFullWrong)

/-- 'tipstafflaw22.GateFrozen': WHATEVER THE INPUT: true; the input reads as it did. -/
def gateFrozenSpec : ChangeSpec := { name := "gateFrozen", fn := fun _ => fun
  | [d1, d2] => { results := [.lit (.bool true)], args := [d1, d2] }
  | _ => none }
def gateFrozenRow : OpenClaim := { program := "ytmpgfgemnhbkhaagreatdoor", sum := "2219601ed7c4637230aa1e992328b801bb09f35f3e48b96ac20dc6918a2c71f1", func := "tipstaff/tipstafflaw22.GateFrozen", spec := "gateFrozen", inPlace := ["math/bits.Add64"], unfollowed := true, recurses := true, named := ["tipstaff/digest.begin", "tipstaff/digest.k", "tipstaff/rights.helpers"], apart := false, laid := [("tipstaff/digest.k", laid_tipstaff_digest_k), ("tipstaff/digest.begin", laid_tipstaff_digest_begin), ("tipstaff/rights.helpers", laid_tipstaff_rights_helpers)] }
def GateFrozenSaid : Prop := gateFrozenRow.holds Tryz.pinned (OpenSpec.ofChange gateFrozenSpec)

/-- ITS FALSE NEIGHBOUR: 'it returns false'. Refute it at one input. -/
def gateFrozenWrong : ChangeSpec := { name := "gateFrozen", fn := fun _ => fun
  | [d1, d2] => { results := [.lit (.bool false)], args := [d1, d2] }
  | _ => none }
def GateFrozenWrongFalsely : Prop := gateFrozenRow.holds Tryz.pinned (OpenSpec.ofChange gateFrozenWrong)

/-- 'tipstafflaw22.GateRights': WHATEVER THE INPUT: true; the input reads as it did. -/
def gateRightsSpec : ChangeSpec := { name := "gateRights", fn := fun _ => fun
  | [d1, d2, d3] => { results := [.lit (.bool true)], args := [d1, d2, d3] }
  | _ => none }
def gateRightsRow : OpenClaim := { program := "ytmpgfgemnhbkhaagreatdoor", sum := "2219601ed7c4637230aa1e992328b801bb09f35f3e48b96ac20dc6918a2c71f1", func := "tipstaff/tipstafflaw22.GateRights", spec := "gateRights", inPlace := ["math/bits.Add64"], unfollowed := true, recurses := true, named := ["tipstaff/digest.begin", "tipstaff/digest.k", "tipstaff/rights.helpers"], apart := false, laid := [("tipstaff/digest.k", laid_tipstaff_digest_k), ("tipstaff/digest.begin", laid_tipstaff_digest_begin), ("tipstaff/rights.helpers", laid_tipstaff_rights_helpers)] }
def GateRightsSaid : Prop := gateRightsRow.holds Tryz.pinned (OpenSpec.ofChange gateRightsSpec)

/-- ITS FALSE NEIGHBOUR: 'it returns false'. Refute it at one input. -/
def gateRightsWrong : ChangeSpec := { name := "gateRights", fn := fun _ => fun
  | [d1, d2, d3] => { results := [.lit (.bool false)], args := [d1, d2, d3] }
  | _ => none }
def GateRightsWrongFalsely : Prop := gateRightsRow.holds Tryz.pinned (OpenSpec.ofChange gateRightsWrong)

/-- 'tipstafflaw22.GateFirsts': WHATEVER THE INPUT: true; the input reads as it did. -/
def gateFirstsSpec : ChangeSpec := { name := "gateFirsts", fn := fun _ => fun
  | [d1, d2, d3] => { results := [.lit (.bool true)], args := [d1, d2, d3] }
  | _ => none }
def gateFirstsRow : OpenClaim := { program := "ytmpgfgemnhbkhaagreatdoor", sum := "2219601ed7c4637230aa1e992328b801bb09f35f3e48b96ac20dc6918a2c71f1", func := "tipstaff/tipstafflaw22.GateFirsts", spec := "gateFirsts", inPlace := ["math/bits.Add64"], unfollowed := true, recurses := true, named := ["tipstaff/digest.begin", "tipstaff/digest.k", "tipstaff/rights.helpers"], apart := false, laid := [("tipstaff/digest.k", laid_tipstaff_digest_k), ("tipstaff/digest.begin", laid_tipstaff_digest_begin), ("tipstaff/rights.helpers", laid_tipstaff_rights_helpers)] }
def GateFirstsSaid : Prop := gateFirstsRow.holds Tryz.pinned (OpenSpec.ofChange gateFirstsSpec)

/-- ITS FALSE NEIGHBOUR: 'it returns false'. Refute it at one input. -/
def gateFirstsWrong : ChangeSpec := { name := "gateFirsts", fn := fun _ => fun
  | [d1, d2, d3] => { results := [.lit (.bool false)], args := [d1, d2, d3] }
  | _ => none }
def GateFirstsWrongFalsely : Prop := gateFirstsRow.holds Tryz.pinned (OpenSpec.ofChange gateFirstsWrong)

/- THE SECOND FORM. 'bulk': how many values and letters a reading holds, each counted each time it is reached (what is shared counts as often as it is met; a slice's spare places count too). A statement '..UptoSaid' is the law's where the arguments, and the package variables that the reading takes, are together of bulk at most 1048576: NARROWER than '..Said'. Prove '..Said' where nothing that the law and all that it calls make is longer than what came in: it says more and counts as full. Else prove '..UptoSaid'. A law counts once. -/
mutual
def uptoBulk {H : Type} : DataW H → Nat
  | .lit (.string bytes) => bytes.length + 1
  | .lit _ => 1
  | .nil => 1
  | .ptr d => uptoBulk d + 1
  | .slice elems spare => uptoBulkAll elems + uptoBulkAll spare + 1
  | .agg parts => uptoBulkAll parts + 1
  | .iface _ d => uptoBulk d + 1
  | .map entries => uptoBulkEntries entries + 1
  | .held _ => 1
def uptoBulkAll {H : Type} : List (DataW H) → Nat
  | [] => 0
  | d :: r => uptoBulk d + uptoBulkAll r
def uptoBulkEntries {H : Type} : List (Lit × DataW H) → Nat
  | [] => 0
  | x :: r => uptoBulkEntry x + uptoBulkEntries r
def uptoBulkEntry {H : Type} : Lit × DataW H → Nat
  | (.string bytes, d) => bytes.length + uptoBulk d + 1
  | (_, d) => uptoBulk d + 1
 end
def uptoSmall : (H : Type) → List (DataW H) → Bool := fun _ ds => decide (uptoBulkAll ds ≤ 1048576)
def OpenSpec.upto (s : _root_.Go.ChangeSpec) : _root_.Go.OpenSpec := { _root_.Go.OpenSpec.ofChange s with cond := some uptoSmall }

/-- 'tipstafftop.TipstaffQueues', WHERE WHAT IT READS IS OF BULK AT MOST 1048576: true; the input reads as it did. -/
def tipstaffQueuesUptoRow : OpenClaim := { program := "ytmpgfgemnhbkhaagreatdoor", sum := "2219601ed7c4637230aa1e992328b801bb09f35f3e48b96ac20dc6918a2c71f1", func := "tipstaff/tipstafftop.TipstaffQueues", spec := "tipstaffQueues", inPlace := ["math/bits.Add64"], unfollowed := true, recurses := true, named := ["tipstaff/digest.begin", "tipstaff/digest.k"], apart := false, laid := [("tipstaff/digest.k", laid_tipstaff_digest_k), ("tipstaff/digest.begin", laid_tipstaff_digest_begin)], narrowed := true }
def TipstaffQueuesUptoSaid : Prop := tipstaffQueuesUptoRow.holds Tryz.pinned (OpenSpec.upto tipstaffQueuesSpec)

/-- 'tipstafftop.TipstaffCounts', WHERE WHAT IT READS IS OF BULK AT MOST 1048576: true; the input reads as it did. -/
def tipstaffCountsUptoRow : OpenClaim := { program := "ytmpgfgemnhbkhaagreatdoor", sum := "2219601ed7c4637230aa1e992328b801bb09f35f3e48b96ac20dc6918a2c71f1", func := "tipstaff/tipstafftop.TipstaffCounts", spec := "tipstaffCounts", inPlace := ["math/bits.Add64"], unfollowed := true, recurses := true, named := ["tipstaff/digest.begin", "tipstaff/digest.k"], apart := false, laid := [("tipstaff/digest.k", laid_tipstaff_digest_k), ("tipstaff/digest.begin", laid_tipstaff_digest_begin)], narrowed := true }
def TipstaffCountsUptoSaid : Prop := tipstaffCountsUptoRow.holds Tryz.pinned (OpenSpec.upto tipstaffCountsSpec)

/-- 'tipstafflaw21.LoaderHeld', WHERE WHAT IT READS IS OF BULK AT MOST 1048576: true; the input reads as it did. -/
def loaderHeldUptoRow : OpenClaim := { program := "ytmpgfgemnhbkhaagreatdoor", sum := "2219601ed7c4637230aa1e992328b801bb09f35f3e48b96ac20dc6918a2c71f1", func := "tipstaff/tipstafflaw21.LoaderHeld", spec := "loaderHeld", inPlace := ["math/bits.Add64"], unfollowed := true, recurses := true, named := ["tipstaff/digest.begin", "tipstaff/digest.k", "tipstaff/rights.helpers"], apart := false, laid := [("tipstaff/digest.k", laid_tipstaff_digest_k), ("tipstaff/digest.begin", laid_tipstaff_digest_begin), ("tipstaff/rights.helpers", laid_tipstaff_rights_helpers)], narrowed := true }
def LoaderHeldUptoSaid : Prop := loaderHeldUptoRow.holds Tryz.pinned (OpenSpec.upto loaderHeldSpec)

/-- 'tipstafflaw22.GateChain', WHERE WHAT IT READS IS OF BULK AT MOST 1048576: true; the input reads as it did. -/
def gateChainUptoRow : OpenClaim := { program := "ytmpgfgemnhbkhaagreatdoor", sum := "2219601ed7c4637230aa1e992328b801bb09f35f3e48b96ac20dc6918a2c71f1", func := "tipstaff/tipstafflaw22.GateChain", spec := "gateChain", inPlace := ["math/bits.Add64"], unfollowed := true, recurses := true, named := ["tipstaff/digest.begin", "tipstaff/digest.k", "tipstaff/rights.helpers"], apart := false, laid := [("tipstaff/digest.k", laid_tipstaff_digest_k), ("tipstaff/digest.begin", laid_tipstaff_digest_begin), ("tipstaff/rights.helpers", laid_tipstaff_rights_helpers)], narrowed := true }
def GateChainUptoSaid : Prop := gateChainUptoRow.holds Tryz.pinned (OpenSpec.upto gateChainSpec)

/-- 'tipstafflaw22.GateHeld', WHERE WHAT IT READS IS OF BULK AT MOST 1048576: true; the input reads as it did. -/
def gateHeldUptoRow : OpenClaim := { program := "ytmpgfgemnhbkhaagreatdoor", sum := "2219601ed7c4637230aa1e992328b801bb09f35f3e48b96ac20dc6918a2c71f1", func := "tipstaff/tipstafflaw22.GateHeld", spec := "gateHeld", inPlace := ["math/bits.Add64"], unfollowed := true, recurses := true, named := ["tipstaff/digest.begin", "tipstaff/digest.k", "tipstaff/rights.helpers"], apart := false, laid := [("tipstaff/digest.k", laid_tipstaff_digest_k), ("tipstaff/digest.begin", laid_tipstaff_digest_begin), ("tipstaff/rights.helpers", laid_tipstaff_rights_helpers)], narrowed := true }
def GateHeldUptoSaid : Prop := gateHeldUptoRow.holds Tryz.pinned (OpenSpec.upto gateHeldSpec)

/-- 'tipstafflaw22.GateFull', WHERE WHAT IT READS IS OF BULK AT MOST 1048576: true; the input reads as it did. -/
def gateFullUptoRow : OpenClaim := { program := "ytmpgfgemnhbkhaagreatdoor", sum := "2219601ed7c4637230aa1e992328b801bb09f35f3e48b96ac20dc6918a2c71f1", func := "tipstaff/tipstafflaw22.GateFull", spec := "gateFull", inPlace := ["math/bits.Add64"], unfollowed := true, recurses := true, named := ["tipstaff/digest.begin", "tipstaff/digest.k", "tipstaff/rights.helpers"], apart := false, laid := [("tipstaff/digest.k", laid_tipstaff_digest_k), ("tipstaff/digest.begin", laid_tipstaff_digest_begin), ("tipstaff/rights.helpers", laid_tipstaff_rights_helpers)], narrowed := true }
def GateFullUptoSaid : Prop := gateFullUptoRow.holds Tryz.pinned (OpenSpec.upto gateFullSpec)

/-- 'tipstafflaw22.GateFrozen', WHERE WHAT IT READS IS OF BULK AT MOST 1048576: true; the input reads as it did. -/
def gateFrozenUptoRow : OpenClaim := { program := "ytmpgfgemnhbkhaagreatdoor", sum := "2219601ed7c4637230aa1e992328b801bb09f35f3e48b96ac20dc6918a2c71f1", func := "tipstaff/tipstafflaw22.GateFrozen", spec := "gateFrozen", inPlace := ["math/bits.Add64"], unfollowed := true, recurses := true, named := ["tipstaff/digest.begin", "tipstaff/digest.k", "tipstaff/rights.helpers"], apart := false, laid := [("tipstaff/digest.k", laid_tipstaff_digest_k), ("tipstaff/digest.begin", laid_tipstaff_digest_begin), ("tipstaff/rights.helpers", laid_tipstaff_rights_helpers)], narrowed := true }
def GateFrozenUptoSaid : Prop := gateFrozenUptoRow.holds Tryz.pinned (OpenSpec.upto gateFrozenSpec)

/-- 'tipstafflaw22.GateRights', WHERE WHAT IT READS IS OF BULK AT MOST 1048576: true; the input reads as it did. -/
def gateRightsUptoRow : OpenClaim := { program := "ytmpgfgemnhbkhaagreatdoor", sum := "2219601ed7c4637230aa1e992328b801bb09f35f3e48b96ac20dc6918a2c71f1", func := "tipstaff/tipstafflaw22.GateRights", spec := "gateRights", inPlace := ["math/bits.Add64"], unfollowed := true, recurses := true, named := ["tipstaff/digest.begin", "tipstaff/digest.k", "tipstaff/rights.helpers"], apart := false, laid := [("tipstaff/digest.k", laid_tipstaff_digest_k), ("tipstaff/digest.begin", laid_tipstaff_digest_begin), ("tipstaff/rights.helpers", laid_tipstaff_rights_helpers)], narrowed := true }
def GateRightsUptoSaid : Prop := gateRightsUptoRow.holds Tryz.pinned (OpenSpec.upto gateRightsSpec)

/-- 'tipstafflaw22.GateFirsts', WHERE WHAT IT READS IS OF BULK AT MOST 1048576: true; the input reads as it did. -/
def gateFirstsUptoRow : OpenClaim := { program := "ytmpgfgemnhbkhaagreatdoor", sum := "2219601ed7c4637230aa1e992328b801bb09f35f3e48b96ac20dc6918a2c71f1", func := "tipstaff/tipstafflaw22.GateFirsts", spec := "gateFirsts", inPlace := ["math/bits.Add64"], unfollowed := true, recurses := true, named := ["tipstaff/digest.begin", "tipstaff/digest.k", "tipstaff/rights.helpers"], apart := false, laid := [("tipstaff/digest.k", laid_tipstaff_digest_k), ("tipstaff/digest.begin", laid_tipstaff_digest_begin), ("tipstaff/rights.helpers", laid_tipstaff_rights_helpers)], narrowed := true }
def GateFirstsUptoSaid : Prop := gateFirstsUptoRow.holds Tryz.pinned (OpenSpec.upto gateFirstsSpec)

end Rows
end Go.Proofs.YtmpgfgemnhbkhaaGreatDoor
