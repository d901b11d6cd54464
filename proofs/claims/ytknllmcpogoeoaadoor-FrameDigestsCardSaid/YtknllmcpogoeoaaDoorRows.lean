/-
  NARROWER THAN 'FOR EVERY INPUT', by the rows' own cells (each row's printed sentence says how): DigestSums: laid · DigestKeeps: laid · DigestOrders: laid · DigestPieces: laid · DigestCopies: laid · DigestNil: laid · DigestParts: laid · DigestTexts: laid · DigestParses: laid · FrameDigests: laid · DigestLong: laid.
  DERIVED. THE GIVEN ROWS OF THIS SEAT. 11 by the template 'for every input the law returns true; each argument reads behind the call as it read before'; 0 by the template 'total and deterministic' (their statements: YtknllmcpogoeoaaDoorTotals.lean).
  GIVEN WITH THE SEED: the statements are not yours to turn. If you find one false, say at which input.
  Laid BY PROGRAM, IN A SANDBOX (cutbox-rows.mjs): the forced cells as the released guide's own fill.sh prints them over the translation 786612ddcb05a999… (all of the seat's roots in one cut). By AI agents, Wed Nov 11 2026. No macro, syntax, notation, axiom, sorry.
-/
import Derived.Test.YtknllmcpogoeoaaDoorChecked
import GoSem.Claim
import GoSem.ClaimJoined
import GoSem.ClaimMapViews
import Derived.JoinedTies
import Derived.KernelRfl
namespace Go.Proofs.YtknllmcpogoeoaaDoor
/- THE CELL 'sum', in the pinned program and in every row, IS THE sha256 OF THE DUMP (.gsa) THAT YtknllmcpogoeoaaDoorProg.lean LOADS. Nothing in Lean hashes anything: it is a label: what it is worth is what the hold of that sum in a sandbox is worth. -/
noncomputable def Tryd.pinned : Pinned := { name := "ytknllmcpogoeoaadoor", sum := "786612ddcb05a999e6cc03a788456f0fa1f514442c69995f014ed73b6c49f7e3", checked := Tryd.checked }
namespace Rows
def none {H : Type} : Left H := { results := [], args := [] }

/- WHAT THE LISTED PACKAGE-LEVEL VARIABLES READ AS WHEN THE CALL BEGINS. Each datum BY PROGRAM (the guide's laid-datum.mjs) off the statement by which the dump's own 'gosem.cut.vars' lays the variable. In a bare row this is a premise. The card (YtknllmcpogoeoaaDoorCards.lean) ties it to the program's text. -/
def laid_rootcause_digest_constants {H : Type} : DataW H := .agg [.lit (.int .u32 1116352408), .lit (.int .u32 1899447441), .lit (.int .u32 3049323471), .lit (.int .u32 3921009573), .lit (.int .u32 961987163), .lit (.int .u32 1508970993), .lit (.int .u32 2453635748), .lit (.int .u32 2870763221), .lit (.int .u32 3624381080), .lit (.int .u32 310598401), .lit (.int .u32 607225278), .lit (.int .u32 1426881987), .lit (.int .u32 1925078388), .lit (.int .u32 2162078206), .lit (.int .u32 2614888103), .lit (.int .u32 3248222580), .lit (.int .u32 3835390401), .lit (.int .u32 4022224774), .lit (.int .u32 264347078), .lit (.int .u32 604807628), .lit (.int .u32 770255983), .lit (.int .u32 1249150122), .lit (.int .u32 1555081692), .lit (.int .u32 1996064986), .lit (.int .u32 2554220882), .lit (.int .u32 2821834349), .lit (.int .u32 2952996808), .lit (.int .u32 3210313671), .lit (.int .u32 3336571891), .lit (.int .u32 3584528711), .lit (.int .u32 113926993), .lit (.int .u32 338241895), .lit (.int .u32 666307205), .lit (.int .u32 773529912), .lit (.int .u32 1294757372), .lit (.int .u32 1396182291), .lit (.int .u32 1695183700), .lit (.int .u32 1986661051), .lit (.int .u32 2177026350), .lit (.int .u32 2456956037), .lit (.int .u32 2730485921), .lit (.int .u32 2820302411), .lit (.int .u32 3259730800), .lit (.int .u32 3345764771), .lit (.int .u32 3516065817), .lit (.int .u32 3600352804), .lit (.int .u32 4094571909), .lit (.int .u32 275423344), .lit (.int .u32 430227734), .lit (.int .u32 506948616), .lit (.int .u32 659060556), .lit (.int .u32 883997877), .lit (.int .u32 958139571), .lit (.int .u32 1322822218), .lit (.int .u32 1537002063), .lit (.int .u32 1747873779), .lit (.int .u32 1955562222), .lit (.int .u32 2024104815), .lit (.int .u32 2227730452), .lit (.int .u32 2361852424), .lit (.int .u32 2428436474), .lit (.int .u32 2756734187), .lit (.int .u32 3204031479), .lit (.int .u32 3329325298)]

/-- 'rootcauselaw02.DigestSums': WHATEVER THE INPUT: true; the input reads as it did. -/
def digestSumsSpec : ChangeSpec := { name := "digestSums", fn := fun _ => fun
  | [d] => { results := [.lit (.bool true)], args := [d] }
  | _ => none }
def digestSumsRow : OpenClaim := { program := "ytknllmcpogoeoaadoor", sum := "786612ddcb05a999e6cc03a788456f0fa1f514442c69995f014ed73b6c49f7e3", func := "rootcause/rootcauselaw02.DigestSums", spec := "digestSums", named := ["rootcause/digest.constants"], apart := false, laid := [("rootcause/digest.constants", laid_rootcause_digest_constants)] }
def DigestSumsSaid : Prop := digestSumsRow.holds Tryd.pinned (OpenSpec.ofChange digestSumsSpec)

/-- ITS FALSE NEIGHBOUR: 'it returns false'. Refute it at one input. -/
def digestSumsWrong : ChangeSpec := { name := "digestSums", fn := fun _ => fun
  | [d] => { results := [.lit (.bool false)], args := [d] }
  | _ => none }
def DigestSumsWrongFalsely : Prop := digestSumsRow.holds Tryd.pinned (OpenSpec.ofChange digestSumsWrong)

/-- 'rootcauselaw02.DigestKeeps': WHATEVER THE INPUT: true; the input reads as it did. -/
def digestKeepsSpec : ChangeSpec := { name := "digestKeeps", fn := fun _ => fun
  | [d1, d2, d3] => { results := [.lit (.bool true)], args := [d1, d2, d3] }
  | _ => none }
def digestKeepsRow : OpenClaim := { program := "ytknllmcpogoeoaadoor", sum := "786612ddcb05a999e6cc03a788456f0fa1f514442c69995f014ed73b6c49f7e3", func := "rootcause/rootcauselaw02.DigestKeeps", spec := "digestKeeps", named := ["rootcause/digest.constants"], apart := false, laid := [("rootcause/digest.constants", laid_rootcause_digest_constants)] }
def DigestKeepsSaid : Prop := digestKeepsRow.holds Tryd.pinned (OpenSpec.ofChange digestKeepsSpec)

/-- ITS FALSE NEIGHBOUR: 'it returns false'. Refute it at one input. -/
def digestKeepsWrong : ChangeSpec := { name := "digestKeeps", fn := fun _ => fun
  | [d1, d2, d3] => { results := [.lit (.bool false)], args := [d1, d2, d3] }
  | _ => none }
def DigestKeepsWrongFalsely : Prop := digestKeepsRow.holds Tryd.pinned (OpenSpec.ofChange digestKeepsWrong)

/-- 'rootcauselaw02.DigestOrders': WHATEVER THE INPUT: true; the input reads as it did. -/
def digestOrdersSpec : ChangeSpec := { name := "digestOrders", fn := fun _ => fun
  | [d1, d2, d3] => { results := [.lit (.bool true)], args := [d1, d2, d3] }
  | _ => none }
def digestOrdersRow : OpenClaim := { program := "ytknllmcpogoeoaadoor", sum := "786612ddcb05a999e6cc03a788456f0fa1f514442c69995f014ed73b6c49f7e3", func := "rootcause/rootcauselaw02.DigestOrders", spec := "digestOrders", inPlace := ["internal/bytealg.Compare"], named := ["rootcause/digest.constants"], apart := false, laid := [("rootcause/digest.constants", laid_rootcause_digest_constants)] }
def DigestOrdersSaid : Prop := digestOrdersRow.holds Tryd.pinned (OpenSpec.ofChange digestOrdersSpec)

/-- ITS FALSE NEIGHBOUR: 'it returns false'. Refute it at one input. -/
def digestOrdersWrong : ChangeSpec := { name := "digestOrders", fn := fun _ => fun
  | [d1, d2, d3] => { results := [.lit (.bool false)], args := [d1, d2, d3] }
  | _ => none }
def DigestOrdersWrongFalsely : Prop := digestOrdersRow.holds Tryd.pinned (OpenSpec.ofChange digestOrdersWrong)

/-- 'rootcauselaw02.DigestPieces': WHATEVER THE INPUT: true; the input reads as it did. -/
def digestPiecesSpec : ChangeSpec := { name := "digestPieces", fn := fun _ => fun
  | [d1, d2, d3] => { results := [.lit (.bool true)], args := [d1, d2, d3] }
  | _ => none }
def digestPiecesRow : OpenClaim := { program := "ytknllmcpogoeoaadoor", sum := "786612ddcb05a999e6cc03a788456f0fa1f514442c69995f014ed73b6c49f7e3", func := "rootcause/rootcauselaw02.DigestPieces", spec := "digestPieces", named := ["rootcause/digest.constants"], apart := false, laid := [("rootcause/digest.constants", laid_rootcause_digest_constants)] }
def DigestPiecesSaid : Prop := digestPiecesRow.holds Tryd.pinned (OpenSpec.ofChange digestPiecesSpec)

/-- ITS FALSE NEIGHBOUR: 'it returns false'. Refute it at one input. -/
def digestPiecesWrong : ChangeSpec := { name := "digestPieces", fn := fun _ => fun
  | [d1, d2, d3] => { results := [.lit (.bool false)], args := [d1, d2, d3] }
  | _ => none }
def DigestPiecesWrongFalsely : Prop := digestPiecesRow.holds Tryd.pinned (OpenSpec.ofChange digestPiecesWrong)

/-- 'rootcauselaw02.DigestCopies': WHATEVER THE INPUT: true; the input reads as it did. -/
def digestCopiesSpec : ChangeSpec := { name := "digestCopies", fn := fun _ => fun
  | [d1, d2, d3] => { results := [.lit (.bool true)], args := [d1, d2, d3] }
  | _ => none }
def digestCopiesRow : OpenClaim := { program := "ytknllmcpogoeoaadoor", sum := "786612ddcb05a999e6cc03a788456f0fa1f514442c69995f014ed73b6c49f7e3", func := "rootcause/rootcauselaw02.DigestCopies", spec := "digestCopies", named := ["rootcause/digest.constants"], apart := false, laid := [("rootcause/digest.constants", laid_rootcause_digest_constants)] }
def DigestCopiesSaid : Prop := digestCopiesRow.holds Tryd.pinned (OpenSpec.ofChange digestCopiesSpec)

/-- ITS FALSE NEIGHBOUR: 'it returns false'. Refute it at one input. -/
def digestCopiesWrong : ChangeSpec := { name := "digestCopies", fn := fun _ => fun
  | [d1, d2, d3] => { results := [.lit (.bool false)], args := [d1, d2, d3] }
  | _ => none }
def DigestCopiesWrongFalsely : Prop := digestCopiesRow.holds Tryd.pinned (OpenSpec.ofChange digestCopiesWrong)

/-- 'rootcauselaw02.DigestNil': WHATEVER THE INPUT: true; the input reads as it did. -/
def digestNilSpec : ChangeSpec := { name := "digestNil", fn := fun _ => fun
  | [d] => { results := [.lit (.bool true)], args := [d] }
  | _ => none }
def digestNilRow : OpenClaim := { program := "ytknllmcpogoeoaadoor", sum := "786612ddcb05a999e6cc03a788456f0fa1f514442c69995f014ed73b6c49f7e3", func := "rootcause/rootcauselaw02.DigestNil", spec := "digestNil", named := ["rootcause/digest.constants"], apart := false, laid := [("rootcause/digest.constants", laid_rootcause_digest_constants)] }
def DigestNilSaid : Prop := digestNilRow.holds Tryd.pinned (OpenSpec.ofChange digestNilSpec)

/-- ITS FALSE NEIGHBOUR: 'it returns false'. Refute it at one input. -/
def digestNilWrong : ChangeSpec := { name := "digestNil", fn := fun _ => fun
  | [d] => { results := [.lit (.bool false)], args := [d] }
  | _ => none }
def DigestNilWrongFalsely : Prop := digestNilRow.holds Tryd.pinned (OpenSpec.ofChange digestNilWrong)

/-- 'rootcauselaw02.DigestParts': WHATEVER THE INPUT: true; the input reads as it did. -/
def digestPartsSpec : ChangeSpec := { name := "digestParts", fn := fun _ => fun
  | [d1, d2, d3] => { results := [.lit (.bool true)], args := [d1, d2, d3] }
  | _ => none }
def digestPartsRow : OpenClaim := { program := "ytknllmcpogoeoaadoor", sum := "786612ddcb05a999e6cc03a788456f0fa1f514442c69995f014ed73b6c49f7e3", func := "rootcause/rootcauselaw02.DigestParts", spec := "digestParts", named := ["rootcause/digest.constants"], apart := false, laid := [("rootcause/digest.constants", laid_rootcause_digest_constants)] }
def DigestPartsSaid : Prop := digestPartsRow.holds Tryd.pinned (OpenSpec.ofChange digestPartsSpec)

/-- ITS FALSE NEIGHBOUR: 'it returns false'. Refute it at one input. -/
def digestPartsWrong : ChangeSpec := { name := "digestParts", fn := fun _ => fun
  | [d1, d2, d3] => { results := [.lit (.bool false)], args := [d1, d2, d3] }
  | _ => none }
def DigestPartsWrongFalsely : Prop := digestPartsRow.holds Tryd.pinned (OpenSpec.ofChange digestPartsWrong)

/-- 'rootcauselaw02.DigestTexts': WHATEVER THE INPUT: true; the input reads as it did. -/
def digestTextsSpec : ChangeSpec := { name := "digestTexts", fn := fun _ => fun
  | [d] => { results := [.lit (.bool true)], args := [d] }
  | _ => none }
def digestTextsRow : OpenClaim := { program := "ytknllmcpogoeoaadoor", sum := "786612ddcb05a999e6cc03a788456f0fa1f514442c69995f014ed73b6c49f7e3", func := "rootcause/rootcauselaw02.DigestTexts", spec := "digestTexts", named := ["rootcause/digest.constants"], apart := false, laid := [("rootcause/digest.constants", laid_rootcause_digest_constants)] }
def DigestTextsSaid : Prop := digestTextsRow.holds Tryd.pinned (OpenSpec.ofChange digestTextsSpec)

/-- ITS FALSE NEIGHBOUR: 'it returns false'. Refute it at one input. -/
def digestTextsWrong : ChangeSpec := { name := "digestTexts", fn := fun _ => fun
  | [d] => { results := [.lit (.bool false)], args := [d] }
  | _ => none }
def DigestTextsWrongFalsely : Prop := digestTextsRow.holds Tryd.pinned (OpenSpec.ofChange digestTextsWrong)

/-- 'rootcauselaw02.DigestParses': WHATEVER THE INPUT: true; the input reads as it did. -/
def digestParsesSpec : ChangeSpec := { name := "digestParses", fn := fun _ => fun
  | [d] => { results := [.lit (.bool true)], args := [d] }
  | _ => none }
def digestParsesRow : OpenClaim := { program := "ytknllmcpogoeoaadoor", sum := "786612ddcb05a999e6cc03a788456f0fa1f514442c69995f014ed73b6c49f7e3", func := "rootcause/rootcauselaw02.DigestParses", spec := "digestParses", named := ["rootcause/digest.constants"], apart := false, laid := [("rootcause/digest.constants", laid_rootcause_digest_constants)] }
def DigestParsesSaid : Prop := digestParsesRow.holds Tryd.pinned (OpenSpec.ofChange digestParsesSpec)

/-- ITS FALSE NEIGHBOUR: 'it returns false'. Refute it at one input. -/
def digestParsesWrong : ChangeSpec := { name := "digestParses", fn := fun _ => fun
  | [d] => { results := [.lit (.bool false)], args := [d] }
  | _ => none }
def DigestParsesWrongFalsely : Prop := digestParsesRow.holds Tryd.pinned (OpenSpec.ofChange digestParsesWrong)

/-- 'rootcauselaw03.FrameDigests': WHATEVER THE INPUT: true; the input reads as it did. -/
def frameDigestsSpec : ChangeSpec := { name := "frameDigests", fn := fun _ => fun
  | [d1, d2] => { results := [.lit (.bool true)], args := [d1, d2] }
  | _ => none }
def frameDigestsRow : OpenClaim := { program := "ytknllmcpogoeoaadoor", sum := "786612ddcb05a999e6cc03a788456f0fa1f514442c69995f014ed73b6c49f7e3", func := "rootcause/rootcauselaw03.FrameDigests", spec := "frameDigests", unfollowed := true, recurses := true, named := ["rootcause/digest.constants"], apart := false, laid := [("rootcause/digest.constants", laid_rootcause_digest_constants)] }
def FrameDigestsSaid : Prop := frameDigestsRow.holds Tryd.pinned (OpenSpec.ofChange frameDigestsSpec)

/-- ITS FALSE NEIGHBOUR: 'it returns false'. Refute it at one input. -/
def frameDigestsWrong : ChangeSpec := { name := "frameDigests", fn := fun _ => fun
  | [d1, d2] => { results := [.lit (.bool false)], args := [d1, d2] }
  | _ => none }
def FrameDigestsWrongFalsely : Prop := frameDigestsRow.holds Tryd.pinned (OpenSpec.ofChange frameDigestsWrong)

/-- 'rootcauselaw02.DigestLong': WHATEVER THE INPUT: true; the input reads as it did. -/
def digestLongSpec : ChangeSpec := { name := "digestLong", fn := fun _ => fun
  | [d1, d2] => { results := [.lit (.bool true)], args := [d1, d2] }
  | _ => none }
def digestLongRow : OpenClaim := { program := "ytknllmcpogoeoaadoor", sum := "786612ddcb05a999e6cc03a788456f0fa1f514442c69995f014ed73b6c49f7e3", func := "rootcause/rootcauselaw02.DigestLong", spec := "digestLong", inPlace := ["internal/bytealg.MakeNoZero"], named := ["rootcause/digest.constants"], apart := false, laid := [("rootcause/digest.constants", laid_rootcause_digest_constants)] }
def DigestLongSaid : Prop := digestLongRow.holds Tryd.pinned (OpenSpec.ofChange digestLongSpec)

/-- ITS FALSE NEIGHBOUR: 'it returns false'. Refute it at one input. -/
def digestLongWrong : ChangeSpec := { name := "digestLong", fn := fun _ => fun
  | [d1, d2] => { results := [.lit (.bool false)], args := [d1, d2] }
  | _ => none }
def DigestLongWrongFalsely : Prop := digestLongRow.holds Tryd.pinned (OpenSpec.ofChange digestLongWrong)

/- THE SECOND FORM. 'bulk': how many values and letters a reading holds, each counted each time it is reached (what is shared counts as often as it is met; a slice's spare places count too). A statement '..UptoSaid' is the law's where the arguments, and the package variables that the reading takes, are together of bulk at most 1048576: NARROWER than '..Said'. Prove '..Said' where nothing that the law and all that it calls make is longer than what came in: it says more and counts as full. Else prove '..UptoSaid'. A law counts once. -/
mutual
def uptoBulk {H : Type} : DataW H → Nat
  | .lit (.string bytes) => bytes.length + 1
  | .lit _ => 1
  | .nil => 1
  | .ptr d => uptoBulk d + 1
  | .slice elems spare => uptoBulkAll elems + uptoBulkAll spare + 1
  | .agg parts => uptoBulkAll parts + 1
  | .iface _ d => uptoBulk d + 1
  | .map entries => uptoBulkEntries entries + 1
  | .held _ => 1
def uptoBulkAll {H : Type} : List (DataW H) → Nat
  | [] => 0
  | d :: r => uptoBulk d + uptoBulkAll r
def uptoBulkEntries {H : Type} : List (Lit × DataW H) → Nat
  | [] => 0
  | x :: r => uptoBulkEntry x + uptoBulkEntries r
def uptoBulkEntry {H : Type} : Lit × DataW H → Nat
  | (.string bytes, d) => bytes.length + uptoBulk d + 1
  | (_, d) => uptoBulk d + 1
 end
def uptoSmall : (H : Type) → List (DataW H) → Bool := fun _ ds => decide (uptoBulkAll ds ≤ 1048576)
def OpenSpec.upto (s : _root_.Go.ChangeSpec) : _root_.Go.OpenSpec := { _root_.Go.OpenSpec.ofChange s with cond := some uptoSmall }

/-- 'rootcauselaw02.DigestSums', WHERE WHAT IT READS IS OF BULK AT MOST 1048576: true; the input reads as it did. -/
def digestSumsUptoRow : OpenClaim := { program := "ytknllmcpogoeoaadoor", sum := "786612ddcb05a999e6cc03a788456f0fa1f514442c69995f014ed73b6c49f7e3", func := "rootcause/rootcauselaw02.DigestSums", spec := "digestSums", named := ["rootcause/digest.constants"], apart := false, laid := [("rootcause/digest.constants", laid_rootcause_digest_constants)], narrowed := true }
def DigestSumsUptoSaid : Prop := digestSumsUptoRow.holds Tryd.pinned (OpenSpec.upto digestSumsSpec)

/-- 'rootcauselaw02.DigestKeeps', WHERE WHAT IT READS IS OF BULK AT MOST 1048576: true; the input reads as it did. -/
def digestKeepsUptoRow : OpenClaim := { program := "ytknllmcpogoeoaadoor", sum := "786612ddcb05a999e6cc03a788456f0fa1f514442c69995f014ed73b6c49f7e3", func := "rootcause/rootcauselaw02.DigestKeeps", spec := "digestKeeps", named := ["rootcause/digest.constants"], apart := false, laid := [("rootcause/digest.constants", laid_rootcause_digest_constants)], narrowed := true }
def DigestKeepsUptoSaid : Prop := digestKeepsUptoRow.holds Tryd.pinned (OpenSpec.upto digestKeepsSpec)

/-- 'rootcauselaw02.DigestOrders', WHERE WHAT IT READS IS OF BULK AT MOST 1048576: true; the input reads as it did. -/
def digestOrdersUptoRow : OpenClaim := { program := "ytknllmcpogoeoaadoor", sum := "786612ddcb05a999e6cc03a788456f0fa1f514442c69995f014ed73b6c49f7e3", func := "rootcause/rootcauselaw02.DigestOrders", spec := "digestOrders", inPlace := ["internal/bytealg.Compare"], named := ["rootcause/digest.constants"], apart := false, laid := [("rootcause/digest.constants", laid_rootcause_digest_constants)], narrowed := true }
def DigestOrdersUptoSaid : Prop := digestOrdersUptoRow.holds Tryd.pinned (OpenSpec.upto digestOrdersSpec)

/-- 'rootcauselaw02.DigestPieces', WHERE WHAT IT READS IS OF BULK AT MOST 1048576: true; the input reads as it did. -/
def digestPiecesUptoRow : OpenClaim := { program := "ytknllmcpogoeoaadoor", sum := "786612ddcb05a999e6cc03a788456f0fa1f514442c69995f014ed73b6c49f7e3", func := "rootcause/rootcauselaw02.DigestPieces", spec := "digestPieces", named := ["rootcause/digest.constants"], apart := false, laid := [("rootcause/digest.constants", laid_rootcause_digest_constants)], narrowed := true }
def DigestPiecesUptoSaid : Prop := digestPiecesUptoRow.holds Tryd.pinned (OpenSpec.upto digestPiecesSpec)

/-- 'rootcauselaw02.DigestCopies', WHERE WHAT IT READS IS OF BULK AT MOST 1048576: true; the input reads as it did. -/
def digestCopiesUptoRow : OpenClaim := { program := "ytknllmcpogoeoaadoor", sum := "786612ddcb05a999e6cc03a788456f0fa1f514442c69995f014ed73b6c49f7e3", func := "rootcause/rootcauselaw02.DigestCopies", spec := "digestCopies", named := ["rootcause/digest.constants"], apart := false, laid := [("rootcause/digest.constants", laid_rootcause_digest_constants)], narrowed := true }
def DigestCopiesUptoSaid : Prop := digestCopiesUptoRow.holds Tryd.pinned (OpenSpec.upto digestCopiesSpec)

/-- 'rootcauselaw02.DigestNil', WHERE WHAT IT READS IS OF BULK AT MOST 1048576: true; the input reads as it did. -/
def digestNilUptoRow : OpenClaim := { program := "ytknllmcpogoeoaadoor", sum := "786612ddcb05a999e6cc03a788456f0fa1f514442c69995f014ed73b6c49f7e3", func := "rootcause/rootcauselaw02.DigestNil", spec := "digestNil", named := ["rootcause/digest.constants"], apart := false, laid := [("rootcause/digest.constants", laid_rootcause_digest_constants)], narrowed := true }
def DigestNilUptoSaid : Prop := digestNilUptoRow.holds Tryd.pinned (OpenSpec.upto digestNilSpec)

/-- 'rootcauselaw02.DigestParts', WHERE WHAT IT READS IS OF BULK AT MOST 1048576: true; the input reads as it did. -/
def digestPartsUptoRow : OpenClaim := { program := "ytknllmcpogoeoaadoor", sum := "786612ddcb05a999e6cc03a788456f0fa1f514442c69995f014ed73b6c49f7e3", func := "rootcause/rootcauselaw02.DigestParts", spec := "digestParts", named := ["rootcause/digest.constants"], apart := false, laid := [("rootcause/digest.constants", laid_rootcause_digest_constants)], narrowed := true }
def DigestPartsUptoSaid : Prop := digestPartsUptoRow.holds Tryd.pinned (OpenSpec.upto digestPartsSpec)

/-- 'rootcauselaw02.DigestTexts', WHERE WHAT IT READS IS OF BULK AT MOST 1048576: true; the input reads as it did. -/
def digestTextsUptoRow : OpenClaim := { program := "ytknllmcpogoeoaadoor", sum := "786612ddcb05a999e6cc03a788456f0fa1f514442c69995f014ed73b6c49f7e3", func := "rootcause/rootcauselaw02.DigestTexts", spec := "digestTexts", named := ["rootcause/digest.constants"], apart := false, laid := [("rootcause/digest.constants", laid_rootcause_digest_constants)], narrowed := true }
def DigestTextsUptoSaid : Prop := digestTextsUptoRow.holds Tryd.pinned (OpenSpec.upto digestTextsSpec)

/-- 'rootcauselaw02.DigestParses', WHERE WHAT IT READS IS OF BULK AT MOST 1048576: true; the input reads as it did. -/
def digestParsesUptoRow : OpenClaim := { program := "ytknllmcpogoeoaadoor", sum := "786612ddcb05a999e6cc03a788456f0fa1f514442c69995f014ed73b6c49f7e3", func := "rootcause/rootcauselaw02.DigestParses", spec := "digestParses", named := ["rootcause/digest.constants"], apart := false, laid := [("rootcause/digest.constants", laid_rootcause_digest_constants)], narrowed := true }
def DigestParsesUptoSaid : Prop := digestParsesUptoRow.holds Tryd.pinned (OpenSpec.upto digestParsesSpec)

/-- 'rootcauselaw03.FrameDigests', WHERE WHAT IT READS IS OF BULK AT MOST 1048576: true; the input reads as it did. -/
def frameDigestsUptoRow : OpenClaim := { program := "ytknllmcpogoeoaadoor", sum := "786612ddcb05a999e6cc03a788456f0fa1f514442c69995f014ed73b6c49f7e3", func := "rootcause/rootcauselaw03.FrameDigests", spec := "frameDigests", unfollowed := true, recurses := true, named := ["rootcause/digest.constants"], apart := false, laid := [("rootcause/digest.constants", laid_rootcause_digest_constants)], narrowed := true }
def FrameDigestsUptoSaid : Prop := frameDigestsUptoRow.holds Tryd.pinned (OpenSpec.upto frameDigestsSpec)

/-- 'rootcauselaw02.DigestLong', WHERE WHAT IT READS IS OF BULK AT MOST 1048576: true; the input reads as it did. -/
def digestLongUptoRow : OpenClaim := { program := "ytknllmcpogoeoaadoor", sum := "786612ddcb05a999e6cc03a788456f0fa1f514442c69995f014ed73b6c49f7e3", func := "rootcause/rootcauselaw02.DigestLong", spec := "digestLong", inPlace := ["internal/bytealg.MakeNoZero"], named := ["rootcause/digest.constants"], apart := false, laid := [("rootcause/digest.constants", laid_rootcause_digest_constants)], narrowed := true }
def DigestLongUptoSaid : Prop := digestLongUptoRow.holds Tryd.pinned (OpenSpec.upto digestLongSpec)

end Rows
end Go.Proofs.YtknllmcpogoeoaaDoor
