/-
  No cell of these rows narrows 'for every input' (looked for: loops, veiled, ifaces, maps, wideKeys, modest, calm, conditions, laid).
  DERIVED. THE GIVEN ROWS OF THIS SEAT. 29 by the template 'for every input the law returns true; each argument reads behind the call as it read before'; 0 by the template 'total and deterministic' (their statements: YtknllmcpogoeoaaTotals.lean).
  GIVEN WITH THE SEED: the statements are not yours to turn. If you find one false, say at which input.
  Laid BY PROGRAM, IN A SANDBOX (cutbox-rows.mjs): the forced cells as the released guide's own fill.sh prints them over the translation 437f66dbd8c8bc38… (all of the seat's roots in one cut). By AI agents, Wed Nov 11 2026. No macro, syntax, notation, axiom, sorry.
-/
import Derived.Test.YtknllmcpogoeoaaChecked
import GoSem.Claim
import GoSem.ClaimJoined
import GoSem.ClaimMapViews
import Derived.JoinedTies
import Derived.KernelRfl
namespace Go.Proofs.Ytknllmcpogoeoaa
/- THE CELL 'sum', in the pinned program and in every row, IS THE sha256 OF THE DUMP (.gsa) THAT YtknllmcpogoeoaaProg.lean LOADS. Nothing in Lean hashes anything: it is a label: what it is worth is what the hold of that sum in a sandbox is worth. -/
noncomputable def Try.pinned : Pinned := { name := "ytknllmcpogoeoaa", sum := "437f66dbd8c8bc3837729f8f003e4d51dea0127358d8bf60496295b8dd7cefb5", checked := Try.checked }
namespace Rows
def none {H : Type} : Left H := { results := [], args := [] }

/-- 'rootcauselaw03.FrameAppends': WHATEVER THE INPUT: true; the input reads as it did. -/
def frameAppendsSpec : ChangeSpec := { name := "frameAppends", fn := fun _ => fun
  | [d1, d2] => { results := [.lit (.bool true)], args := [d1, d2] }
  | _ => none }
def frameAppendsRow : OpenClaim := { program := "ytknllmcpogoeoaa", sum := "437f66dbd8c8bc3837729f8f003e4d51dea0127358d8bf60496295b8dd7cefb5", func := "rootcause/rootcauselaw03.FrameAppends", spec := "frameAppends", unfollowed := true, recurses := true, apart := false }
def FrameAppendsSaid : Prop := frameAppendsRow.holds Try.pinned (OpenSpec.ofChange frameAppendsSpec)

/-- ITS FALSE NEIGHBOUR: 'it returns false'. Refute it at one input. -/
def frameAppendsWrong : ChangeSpec := { name := "frameAppends", fn := fun _ => fun
  | [d1, d2] => { results := [.lit (.bool false)], args := [d1, d2] }
  | _ => none }
def FrameAppendsWrongFalsely : Prop := frameAppendsRow.holds Try.pinned (OpenSpec.ofChange frameAppendsWrong)

/-- 'rootcauselaw03.FrameScans': WHATEVER THE INPUT: true; the input reads as it did. -/
def frameScansSpec : ChangeSpec := { name := "frameScans", fn := fun _ => fun
  | [d] => { results := [.lit (.bool true)], args := [d] }
  | _ => none }
def frameScansRow : OpenClaim := { program := "ytknllmcpogoeoaa", sum := "437f66dbd8c8bc3837729f8f003e4d51dea0127358d8bf60496295b8dd7cefb5", func := "rootcause/rootcauselaw03.FrameScans", spec := "frameScans", unfollowed := true, recurses := true, apart := false }
def FrameScansSaid : Prop := frameScansRow.holds Try.pinned (OpenSpec.ofChange frameScansSpec)

/-- ITS FALSE NEIGHBOUR: 'it returns false'. Refute it at one input. -/
def frameScansWrong : ChangeSpec := { name := "frameScans", fn := fun _ => fun
  | [d] => { results := [.lit (.bool false)], args := [d] }
  | _ => none }
def FrameScansWrongFalsely : Prop := frameScansRow.holds Try.pinned (OpenSpec.ofChange frameScansWrong)

/-- 'rootcauselaw03.FrameCovers': WHATEVER THE INPUT: true; the input reads as it did. -/
def frameCoversSpec : ChangeSpec := { name := "frameCovers", fn := fun _ => fun
  | [d] => { results := [.lit (.bool true)], args := [d] }
  | _ => none }
def frameCoversRow : OpenClaim := { program := "ytknllmcpogoeoaa", sum := "437f66dbd8c8bc3837729f8f003e4d51dea0127358d8bf60496295b8dd7cefb5", func := "rootcause/rootcauselaw03.FrameCovers", spec := "frameCovers", unfollowed := true, recurses := true, apart := false }
def FrameCoversSaid : Prop := frameCoversRow.holds Try.pinned (OpenSpec.ofChange frameCoversSpec)

/-- ITS FALSE NEIGHBOUR: 'it returns false'. Refute it at one input. -/
def frameCoversWrong : ChangeSpec := { name := "frameCovers", fn := fun _ => fun
  | [d] => { results := [.lit (.bool false)], args := [d] }
  | _ => none }
def FrameCoversWrongFalsely : Prop := frameCoversRow.holds Try.pinned (OpenSpec.ofChange frameCoversWrong)

/-- 'rootcauselaw03.FrameBodies': WHATEVER THE INPUT: true; the input reads as it did. -/
def frameBodiesSpec : ChangeSpec := { name := "frameBodies", fn := fun _ => fun
  | [d] => { results := [.lit (.bool true)], args := [d] }
  | _ => none }
def frameBodiesRow : OpenClaim := { program := "ytknllmcpogoeoaa", sum := "437f66dbd8c8bc3837729f8f003e4d51dea0127358d8bf60496295b8dd7cefb5", func := "rootcause/rootcauselaw03.FrameBodies", spec := "frameBodies", unfollowed := true, recurses := true, apart := false }
def FrameBodiesSaid : Prop := frameBodiesRow.holds Try.pinned (OpenSpec.ofChange frameBodiesSpec)

/-- ITS FALSE NEIGHBOUR: 'it returns false'. Refute it at one input. -/
def frameBodiesWrong : ChangeSpec := { name := "frameBodies", fn := fun _ => fun
  | [d] => { results := [.lit (.bool false)], args := [d] }
  | _ => none }
def FrameBodiesWrongFalsely : Prop := frameBodiesRow.holds Try.pinned (OpenSpec.ofChange frameBodiesWrong)

/-- 'rootcauselaw03.FrameStops': WHATEVER THE INPUT: true; the input reads as it did. -/
def frameStopsSpec : ChangeSpec := { name := "frameStops", fn := fun _ => fun
  | [d1, d2] => { results := [.lit (.bool true)], args := [d1, d2] }
  | _ => none }
def frameStopsRow : OpenClaim := { program := "ytknllmcpogoeoaa", sum := "437f66dbd8c8bc3837729f8f003e4d51dea0127358d8bf60496295b8dd7cefb5", func := "rootcause/rootcauselaw03.FrameStops", spec := "frameStops", unfollowed := true, recurses := true, apart := false }
def FrameStopsSaid : Prop := frameStopsRow.holds Try.pinned (OpenSpec.ofChange frameStopsSpec)

/-- ITS FALSE NEIGHBOUR: 'it returns false'. Refute it at one input. -/
def frameStopsWrong : ChangeSpec := { name := "frameStops", fn := fun _ => fun
  | [d1, d2] => { results := [.lit (.bool false)], args := [d1, d2] }
  | _ => none }
def FrameStopsWrongFalsely : Prop := frameStopsRow.holds Try.pinned (OpenSpec.ofChange frameStopsWrong)

/-- 'rootcauselaw03.FrameReturns': WHATEVER THE INPUT: true; the input reads as it did. -/
def frameReturnsSpec : ChangeSpec := { name := "frameReturns", fn := fun _ => fun
  | [d] => { results := [.lit (.bool true)], args := [d] }
  | _ => none }
def frameReturnsRow : OpenClaim := { program := "ytknllmcpogoeoaa", sum := "437f66dbd8c8bc3837729f8f003e4d51dea0127358d8bf60496295b8dd7cefb5", func := "rootcause/rootcauselaw03.FrameReturns", spec := "frameReturns", unfollowed := true, recurses := true, apart := false }
def FrameReturnsSaid : Prop := frameReturnsRow.holds Try.pinned (OpenSpec.ofChange frameReturnsSpec)

/-- ITS FALSE NEIGHBOUR: 'it returns false'. Refute it at one input. -/
def frameReturnsWrong : ChangeSpec := { name := "frameReturns", fn := fun _ => fun
  | [d] => { results := [.lit (.bool false)], args := [d] }
  | _ => none }
def FrameReturnsWrongFalsely : Prop := frameReturnsRow.holds Try.pinned (OpenSpec.ofChange frameReturnsWrong)

/-- 'rootcauselaw03.FrameCuts': WHATEVER THE INPUT: true; the input reads as it did. -/
def frameCutsSpec : ChangeSpec := { name := "frameCuts", fn := fun _ => fun
  | [d1, d2] => { results := [.lit (.bool true)], args := [d1, d2] }
  | _ => none }
def frameCutsRow : OpenClaim := { program := "ytknllmcpogoeoaa", sum := "437f66dbd8c8bc3837729f8f003e4d51dea0127358d8bf60496295b8dd7cefb5", func := "rootcause/rootcauselaw03.FrameCuts", spec := "frameCuts", unfollowed := true, recurses := true, apart := false }
def FrameCutsSaid : Prop := frameCutsRow.holds Try.pinned (OpenSpec.ofChange frameCutsSpec)

/-- ITS FALSE NEIGHBOUR: 'it returns false'. Refute it at one input. -/
def frameCutsWrong : ChangeSpec := { name := "frameCuts", fn := fun _ => fun
  | [d1, d2] => { results := [.lit (.bool false)], args := [d1, d2] }
  | _ => none }
def FrameCutsWrongFalsely : Prop := frameCutsRow.holds Try.pinned (OpenSpec.ofChange frameCutsWrong)

/-- 'rootcauselaw03.FrameDamaged': WHATEVER THE INPUT: true; the input reads as it did. -/
def frameDamagedSpec : ChangeSpec := { name := "frameDamaged", fn := fun _ => fun
  | [d1, d2] => { results := [.lit (.bool true)], args := [d1, d2] }
  | _ => none }
def frameDamagedRow : OpenClaim := { program := "ytknllmcpogoeoaa", sum := "437f66dbd8c8bc3837729f8f003e4d51dea0127358d8bf60496295b8dd7cefb5", func := "rootcause/rootcauselaw03.FrameDamaged", spec := "frameDamaged", unfollowed := true, recurses := true, apart := false }
def FrameDamagedSaid : Prop := frameDamagedRow.holds Try.pinned (OpenSpec.ofChange frameDamagedSpec)

/-- ITS FALSE NEIGHBOUR: 'it returns false'. Refute it at one input. -/
def frameDamagedWrong : ChangeSpec := { name := "frameDamaged", fn := fun _ => fun
  | [d1, d2] => { results := [.lit (.bool false)], args := [d1, d2] }
  | _ => none }
def FrameDamagedWrongFalsely : Prop := frameDamagedRow.holds Try.pinned (OpenSpec.ofChange frameDamagedWrong)

/-- 'rootcauselaw03.FrameBursts': WHATEVER THE INPUT: true; the input reads as it did. -/
def frameBurstsSpec : ChangeSpec := { name := "frameBursts", fn := fun _ => fun
  | [d1, d2] => { results := [.lit (.bool true)], args := [d1, d2] }
  | _ => none }
def frameBurstsRow : OpenClaim := { program := "ytknllmcpogoeoaa", sum := "437f66dbd8c8bc3837729f8f003e4d51dea0127358d8bf60496295b8dd7cefb5", func := "rootcause/rootcauselaw03.FrameBursts", spec := "frameBursts", unfollowed := true, recurses := true, apart := false }
def FrameBurstsSaid : Prop := frameBurstsRow.holds Try.pinned (OpenSpec.ofChange frameBurstsSpec)

/-- ITS FALSE NEIGHBOUR: 'it returns false'. Refute it at one input. -/
def frameBurstsWrong : ChangeSpec := { name := "frameBursts", fn := fun _ => fun
  | [d1, d2] => { results := [.lit (.bool false)], args := [d1, d2] }
  | _ => none }
def FrameBurstsWrongFalsely : Prop := frameBurstsRow.holds Try.pinned (OpenSpec.ofChange frameBurstsWrong)

/-- 'rootcauselaw01.NumUints': WHATEVER THE INPUT: true; the input reads as it did. -/
def numUintsSpec : ChangeSpec := { name := "numUints", fn := fun _ => fun
  | [d1, d2] => { results := [.lit (.bool true)], args := [d1, d2] }
  | _ => none }
def numUintsRow : OpenClaim := { program := "ytknllmcpogoeoaa", sum := "437f66dbd8c8bc3837729f8f003e4d51dea0127358d8bf60496295b8dd7cefb5", func := "rootcause/rootcauselaw01.NumUints", spec := "numUints", apart := false }
def NumUintsSaid : Prop := numUintsRow.holds Try.pinned (OpenSpec.ofChange numUintsSpec)

/-- ITS FALSE NEIGHBOUR: 'it returns false'. Refute it at one input. -/
def numUintsWrong : ChangeSpec := { name := "numUints", fn := fun _ => fun
  | [d1, d2] => { results := [.lit (.bool false)], args := [d1, d2] }
  | _ => none }
def NumUintsWrongFalsely : Prop := numUintsRow.holds Try.pinned (OpenSpec.ofChange numUintsWrong)

/-- 'rootcauselaw29.TransferNil': WHATEVER THE INPUT: true; the input reads as it did. -/
def transferNilSpec : ChangeSpec := { name := "transferNil", fn := fun _ => fun
  | [d] => { results := [.lit (.bool true)], args := [d] }
  | _ => none }
def transferNilRow : OpenClaim := { program := "ytknllmcpogoeoaa", sum := "437f66dbd8c8bc3837729f8f003e4d51dea0127358d8bf60496295b8dd7cefb5", func := "rootcause/rootcauselaw29.TransferNil", spec := "transferNil", apart := false }
def TransferNilSaid : Prop := transferNilRow.holds Try.pinned (OpenSpec.ofChange transferNilSpec)

/-- ITS FALSE NEIGHBOUR: 'it returns false'. Refute it at one input. -/
def transferNilWrong : ChangeSpec := { name := "transferNil", fn := fun _ => fun
  | [d] => { results := [.lit (.bool false)], args := [d] }
  | _ => none }
def TransferNilWrongFalsely : Prop := transferNilRow.holds Try.pinned (OpenSpec.ofChange transferNilWrong)

/-- 'rootcauselaw01.NumOnce': WHATEVER THE INPUT: true; the input reads as it did. -/
def numOnceSpec : ChangeSpec := { name := "numOnce", fn := fun _ => fun
  | [d1, d2, d3] => { results := [.lit (.bool true)], args := [d1, d2, d3] }
  | _ => none }
def numOnceRow : OpenClaim := { program := "ytknllmcpogoeoaa", sum := "437f66dbd8c8bc3837729f8f003e4d51dea0127358d8bf60496295b8dd7cefb5", func := "rootcause/rootcauselaw01.NumOnce", spec := "numOnce", apart := false }
def NumOnceSaid : Prop := numOnceRow.holds Try.pinned (OpenSpec.ofChange numOnceSpec)

/-- ITS FALSE NEIGHBOUR: 'it returns false'. Refute it at one input. -/
def numOnceWrong : ChangeSpec := { name := "numOnce", fn := fun _ => fun
  | [d1, d2, d3] => { results := [.lit (.bool false)], args := [d1, d2, d3] }
  | _ => none }
def NumOnceWrongFalsely : Prop := numOnceRow.holds Try.pinned (OpenSpec.ofChange numOnceWrong)

/-- 'rootcauselaw01.NumSigns': WHATEVER THE INPUT: true; the input reads as it did. -/
def numSignsSpec : ChangeSpec := { name := "numSigns", fn := fun _ => fun
  | [d1, d2, d3] => { results := [.lit (.bool true)], args := [d1, d2, d3] }
  | _ => none }
def numSignsRow : OpenClaim := { program := "ytknllmcpogoeoaa", sum := "437f66dbd8c8bc3837729f8f003e4d51dea0127358d8bf60496295b8dd7cefb5", func := "rootcause/rootcauselaw01.NumSigns", spec := "numSigns", apart := false }
def NumSignsSaid : Prop := numSignsRow.holds Try.pinned (OpenSpec.ofChange numSignsSpec)

/-- ITS FALSE NEIGHBOUR: 'it returns false'. Refute it at one input. -/
def numSignsWrong : ChangeSpec := { name := "numSigns", fn := fun _ => fun
  | [d1, d2, d3] => { results := [.lit (.bool false)], args := [d1, d2, d3] }
  | _ => none }
def NumSignsWrongFalsely : Prop := numSignsRow.holds Try.pinned (OpenSpec.ofChange numSignsWrong)

/-- 'rootcauselaw26.RingFiles': WHATEVER THE INPUT: true; the input reads as it did. -/
def ringFilesSpec : ChangeSpec := { name := "ringFiles", fn := fun _ => fun
  | [d1, d2] => { results := [.lit (.bool true)], args := [d1, d2] }
  | _ => none }
def ringFilesRow : OpenClaim := { program := "ytknllmcpogoeoaa", sum := "437f66dbd8c8bc3837729f8f003e4d51dea0127358d8bf60496295b8dd7cefb5", func := "rootcause/rootcauselaw26.RingFiles", spec := "ringFiles", unfollowed := true, recurses := true, apart := false }
def RingFilesSaid : Prop := ringFilesRow.holds Try.pinned (OpenSpec.ofChange ringFilesSpec)

/-- ITS FALSE NEIGHBOUR: 'it returns false'. Refute it at one input. -/
def ringFilesWrong : ChangeSpec := { name := "ringFiles", fn := fun _ => fun
  | [d1, d2] => { results := [.lit (.bool false)], args := [d1, d2] }
  | _ => none }
def RingFilesWrongFalsely : Prop := ringFilesRow.holds Try.pinned (OpenSpec.ofChange ringFilesWrong)

/-- 'rootcauselaw01.NumBytes': WHATEVER THE INPUT: true; the input reads as it did. -/
def numBytesSpec : ChangeSpec := { name := "numBytes", fn := fun _ => fun
  | [d1, d2, d3] => { results := [.lit (.bool true)], args := [d1, d2, d3] }
  | _ => none }
def numBytesRow : OpenClaim := { program := "ytknllmcpogoeoaa", sum := "437f66dbd8c8bc3837729f8f003e4d51dea0127358d8bf60496295b8dd7cefb5", func := "rootcause/rootcauselaw01.NumBytes", spec := "numBytes", apart := false }
def NumBytesSaid : Prop := numBytesRow.holds Try.pinned (OpenSpec.ofChange numBytesSpec)

/-- ITS FALSE NEIGHBOUR: 'it returns false'. Refute it at one input. -/
def numBytesWrong : ChangeSpec := { name := "numBytes", fn := fun _ => fun
  | [d1, d2, d3] => { results := [.lit (.bool false)], args := [d1, d2, d3] }
  | _ => none }
def NumBytesWrongFalsely : Prop := numBytesRow.holds Try.pinned (OpenSpec.ofChange numBytesWrong)

/-- 'rootcauselaw01.NumBack': WHATEVER THE INPUT: true; the input reads as it did. -/
def numBackSpec : ChangeSpec := { name := "numBack", fn := fun _ => fun
  | [d1, d2, d3] => { results := [.lit (.bool true)], args := [d1, d2, d3] }
  | _ => none }
def numBackRow : OpenClaim := { program := "ytknllmcpogoeoaa", sum := "437f66dbd8c8bc3837729f8f003e4d51dea0127358d8bf60496295b8dd7cefb5", func := "rootcause/rootcauselaw01.NumBack", spec := "numBack", apart := false }
def NumBackSaid : Prop := numBackRow.holds Try.pinned (OpenSpec.ofChange numBackSpec)

/-- ITS FALSE NEIGHBOUR: 'it returns false'. Refute it at one input. -/
def numBackWrong : ChangeSpec := { name := "numBack", fn := fun _ => fun
  | [d1, d2, d3] => { results := [.lit (.bool false)], args := [d1, d2, d3] }
  | _ => none }
def NumBackWrongFalsely : Prop := numBackRow.holds Try.pinned (OpenSpec.ofChange numBackWrong)

/-- 'rootcauselaw01.NumRows': WHATEVER THE INPUT: true; the input reads as it did. -/
def numRowsSpec : ChangeSpec := { name := "numRows", fn := fun _ => fun
  | [d1, d2, d3] => { results := [.lit (.bool true)], args := [d1, d2, d3] }
  | _ => none }
def numRowsRow : OpenClaim := { program := "ytknllmcpogoeoaa", sum := "437f66dbd8c8bc3837729f8f003e4d51dea0127358d8bf60496295b8dd7cefb5", func := "rootcause/rootcauselaw01.NumRows", spec := "numRows", apart := false }
def NumRowsSaid : Prop := numRowsRow.holds Try.pinned (OpenSpec.ofChange numRowsSpec)

/-- ITS FALSE NEIGHBOUR: 'it returns false'. Refute it at one input. -/
def numRowsWrong : ChangeSpec := { name := "numRows", fn := fun _ => fun
  | [d1, d2, d3] => { results := [.lit (.bool false)], args := [d1, d2, d3] }
  | _ => none }
def NumRowsWrongFalsely : Prop := numRowsRow.holds Try.pinned (OpenSpec.ofChange numRowsWrong)

/-- 'rootcauselaw01.NumReads': WHATEVER THE INPUT: true; the input reads as it did. -/
def numReadsSpec : ChangeSpec := { name := "numReads", fn := fun _ => fun
  | [d1, d2] => { results := [.lit (.bool true)], args := [d1, d2] }
  | _ => none }
def numReadsRow : OpenClaim := { program := "ytknllmcpogoeoaa", sum := "437f66dbd8c8bc3837729f8f003e4d51dea0127358d8bf60496295b8dd7cefb5", func := "rootcause/rootcauselaw01.NumReads", spec := "numReads", apart := false }
def NumReadsSaid : Prop := numReadsRow.holds Try.pinned (OpenSpec.ofChange numReadsSpec)

/-- ITS FALSE NEIGHBOUR: 'it returns false'. Refute it at one input. -/
def numReadsWrong : ChangeSpec := { name := "numReads", fn := fun _ => fun
  | [d1, d2] => { results := [.lit (.bool false)], args := [d1, d2] }
  | _ => none }
def NumReadsWrongFalsely : Prop := numReadsRow.holds Try.pinned (OpenSpec.ofChange numReadsWrong)

/-- 'rootcauselaw01.NumNil': WHATEVER THE INPUT: true; the input reads as it did. -/
def numNilSpec : ChangeSpec := { name := "numNil", fn := fun _ => fun
  | [d] => { results := [.lit (.bool true)], args := [d] }
  | _ => none }
def numNilRow : OpenClaim := { program := "ytknllmcpogoeoaa", sum := "437f66dbd8c8bc3837729f8f003e4d51dea0127358d8bf60496295b8dd7cefb5", func := "rootcause/rootcauselaw01.NumNil", spec := "numNil", apart := false }
def NumNilSaid : Prop := numNilRow.holds Try.pinned (OpenSpec.ofChange numNilSpec)

/-- ITS FALSE NEIGHBOUR: 'it returns false'. Refute it at one input. -/
def numNilWrong : ChangeSpec := { name := "numNil", fn := fun _ => fun
  | [d] => { results := [.lit (.bool false)], args := [d] }
  | _ => none }
def NumNilWrongFalsely : Prop := numNilRow.holds Try.pinned (OpenSpec.ofChange numNilWrong)

/-- 'rootcauselaw03.FrameNumbers': WHATEVER THE INPUT: true; the input reads as it did. -/
def frameNumbersSpec : ChangeSpec := { name := "frameNumbers", fn := fun _ => fun
  | [d1, d2] => { results := [.lit (.bool true)], args := [d1, d2] }
  | _ => none }
def frameNumbersRow : OpenClaim := { program := "ytknllmcpogoeoaa", sum := "437f66dbd8c8bc3837729f8f003e4d51dea0127358d8bf60496295b8dd7cefb5", func := "rootcause/rootcauselaw03.FrameNumbers", spec := "frameNumbers", unfollowed := true, recurses := true, apart := false }
def FrameNumbersSaid : Prop := frameNumbersRow.holds Try.pinned (OpenSpec.ofChange frameNumbersSpec)

/-- ITS FALSE NEIGHBOUR: 'it returns false'. Refute it at one input. -/
def frameNumbersWrong : ChangeSpec := { name := "frameNumbers", fn := fun _ => fun
  | [d1, d2] => { results := [.lit (.bool false)], args := [d1, d2] }
  | _ => none }
def FrameNumbersWrongFalsely : Prop := frameNumbersRow.holds Try.pinned (OpenSpec.ofChange frameNumbersWrong)

/-- 'rootcauselaw26.RingWide': WHATEVER THE INPUT: true; the input reads as it did. -/
def ringWideSpec : ChangeSpec := { name := "ringWide", fn := fun _ => fun
  | [d1, d2, d3] => { results := [.lit (.bool true)], args := [d1, d2, d3] }
  | _ => none }
def ringWideRow : OpenClaim := { program := "ytknllmcpogoeoaa", sum := "437f66dbd8c8bc3837729f8f003e4d51dea0127358d8bf60496295b8dd7cefb5", func := "rootcause/rootcauselaw26.RingWide", spec := "ringWide", apart := false }
def RingWideSaid : Prop := ringWideRow.holds Try.pinned (OpenSpec.ofChange ringWideSpec)

/-- ITS FALSE NEIGHBOUR: 'it returns false'. Refute it at one input. -/
def ringWideWrong : ChangeSpec := { name := "ringWide", fn := fun _ => fun
  | [d1, d2, d3] => { results := [.lit (.bool false)], args := [d1, d2, d3] }
  | _ => none }
def RingWideWrongFalsely : Prop := ringWideRow.holds Try.pinned (OpenSpec.ofChange ringWideWrong)

/-- 'rootcauselaw26.RingNewest': WHATEVER THE INPUT: true; the input reads as it did. -/
def ringNewestSpec : ChangeSpec := { name := "ringNewest", fn := fun _ => fun
  | [d1, d2] => { results := [.lit (.bool true)], args := [d1, d2] }
  | _ => none }
def ringNewestRow : OpenClaim := { program := "ytknllmcpogoeoaa", sum := "437f66dbd8c8bc3837729f8f003e4d51dea0127358d8bf60496295b8dd7cefb5", func := "rootcause/rootcauselaw26.RingNewest", spec := "ringNewest", apart := false }
def RingNewestSaid : Prop := ringNewestRow.holds Try.pinned (OpenSpec.ofChange ringNewestSpec)

/-- ITS FALSE NEIGHBOUR: 'it returns false'. Refute it at one input. -/
def ringNewestWrong : ChangeSpec := { name := "ringNewest", fn := fun _ => fun
  | [d1, d2] => { results := [.lit (.bool false)], args := [d1, d2] }
  | _ => none }
def RingNewestWrongFalsely : Prop := ringNewestRow.holds Try.pinned (OpenSpec.ofChange ringNewestWrong)

/-- 'rootcauselaw26.RingPlays': WHATEVER THE INPUT: true; the input reads as it did. -/
def ringPlaysSpec : ChangeSpec := { name := "ringPlays", fn := fun _ => fun
  | [d1, d2] => { results := [.lit (.bool true)], args := [d1, d2] }
  | _ => none }
def ringPlaysRow : OpenClaim := { program := "ytknllmcpogoeoaa", sum := "437f66dbd8c8bc3837729f8f003e4d51dea0127358d8bf60496295b8dd7cefb5", func := "rootcause/rootcauselaw26.RingPlays", spec := "ringPlays", apart := false }
def RingPlaysSaid : Prop := ringPlaysRow.holds Try.pinned (OpenSpec.ofChange ringPlaysSpec)

/-- ITS FALSE NEIGHBOUR: 'it returns false'. Refute it at one input. -/
def ringPlaysWrong : ChangeSpec := { name := "ringPlays", fn := fun _ => fun
  | [d1, d2] => { results := [.lit (.bool false)], args := [d1, d2] }
  | _ => none }
def RingPlaysWrongFalsely : Prop := ringPlaysRow.holds Try.pinned (OpenSpec.ofChange ringPlaysWrong)

/-- 'rootcauselaw26.RingErrs': WHATEVER THE INPUT: true; the input reads as it did. -/
def ringErrsSpec : ChangeSpec := { name := "ringErrs", fn := fun _ => fun
  | [d1, d2, d3] => { results := [.lit (.bool true)], args := [d1, d2, d3] }
  | _ => none }
def ringErrsRow : OpenClaim := { program := "ytknllmcpogoeoaa", sum := "437f66dbd8c8bc3837729f8f003e4d51dea0127358d8bf60496295b8dd7cefb5", func := "rootcause/rootcauselaw26.RingErrs", spec := "ringErrs", apart := false }
def RingErrsSaid : Prop := ringErrsRow.holds Try.pinned (OpenSpec.ofChange ringErrsSpec)

/-- ITS FALSE NEIGHBOUR: 'it returns false'. Refute it at one input. -/
def ringErrsWrong : ChangeSpec := { name := "ringErrs", fn := fun _ => fun
  | [d1, d2, d3] => { results := [.lit (.bool false)], args := [d1, d2, d3] }
  | _ => none }
def RingErrsWrongFalsely : Prop := ringErrsRow.holds Try.pinned (OpenSpec.ofChange ringErrsWrong)

/-- 'rootcauselaw29.TransferRefuses': WHATEVER THE INPUT: true; the input reads as it did. -/
def transferRefusesSpec : ChangeSpec := { name := "transferRefuses", fn := fun _ => fun
  | [d1, d2, d3] => { results := [.lit (.bool true)], args := [d1, d2, d3] }
  | _ => none }
def transferRefusesRow : OpenClaim := { program := "ytknllmcpogoeoaa", sum := "437f66dbd8c8bc3837729f8f003e4d51dea0127358d8bf60496295b8dd7cefb5", func := "rootcause/rootcauselaw29.TransferRefuses", spec := "transferRefuses", apart := false }
def TransferRefusesSaid : Prop := transferRefusesRow.holds Try.pinned (OpenSpec.ofChange transferRefusesSpec)

/-- ITS FALSE NEIGHBOUR: 'it returns false'. Refute it at one input. -/
def transferRefusesWrong : ChangeSpec := { name := "transferRefuses", fn := fun _ => fun
  | [d1, d2, d3] => { results := [.lit (.bool false)], args := [d1, d2, d3] }
  | _ => none }
def TransferRefusesWrongFalsely : Prop := transferRefusesRow.holds Try.pinned (OpenSpec.ofChange transferRefusesWrong)

/-- 'rootcauselaw29.TransferRange': WHATEVER THE INPUT: true; the input reads as it did. -/
def transferRangeSpec : ChangeSpec := { name := "transferRange", fn := fun _ => fun
  | [d1, d2, d3] => { results := [.lit (.bool true)], args := [d1, d2, d3] }
  | _ => none }
def transferRangeRow : OpenClaim := { program := "ytknllmcpogoeoaa", sum := "437f66dbd8c8bc3837729f8f003e4d51dea0127358d8bf60496295b8dd7cefb5", func := "rootcause/rootcauselaw29.TransferRange", spec := "transferRange", apart := false }
def TransferRangeSaid : Prop := transferRangeRow.holds Try.pinned (OpenSpec.ofChange transferRangeSpec)

/-- ITS FALSE NEIGHBOUR: 'it returns false'. Refute it at one input. -/
def transferRangeWrong : ChangeSpec := { name := "transferRange", fn := fun _ => fun
  | [d1, d2, d3] => { results := [.lit (.bool false)], args := [d1, d2, d3] }
  | _ => none }
def TransferRangeWrongFalsely : Prop := transferRangeRow.holds Try.pinned (OpenSpec.ofChange transferRangeWrong)

/-- 'rootcauselaw29.TransferOwns': WHATEVER THE INPUT: true; the input reads as it did. -/
def transferOwnsSpec : ChangeSpec := { name := "transferOwns", fn := fun _ => fun
  | [d] => { results := [.lit (.bool true)], args := [d] }
  | _ => none }
def transferOwnsRow : OpenClaim := { program := "ytknllmcpogoeoaa", sum := "437f66dbd8c8bc3837729f8f003e4d51dea0127358d8bf60496295b8dd7cefb5", func := "rootcause/rootcauselaw29.TransferOwns", spec := "transferOwns", apart := false }
def TransferOwnsSaid : Prop := transferOwnsRow.holds Try.pinned (OpenSpec.ofChange transferOwnsSpec)

/-- ITS FALSE NEIGHBOUR: 'it returns false'. Refute it at one input. -/
def transferOwnsWrong : ChangeSpec := { name := "transferOwns", fn := fun _ => fun
  | [d] => { results := [.lit (.bool false)], args := [d] }
  | _ => none }
def TransferOwnsWrongFalsely : Prop := transferOwnsRow.holds Try.pinned (OpenSpec.ofChange transferOwnsWrong)

/-- 'rootcauselaw29.TransferPlays': WHATEVER THE INPUT: true; the input reads as it did. -/
def transferPlaysSpec : ChangeSpec := { name := "transferPlays", fn := fun _ => fun
  | [d1, d2, d3] => { results := [.lit (.bool true)], args := [d1, d2, d3] }
  | _ => none }
def transferPlaysRow : OpenClaim := { program := "ytknllmcpogoeoaa", sum := "437f66dbd8c8bc3837729f8f003e4d51dea0127358d8bf60496295b8dd7cefb5", func := "rootcause/rootcauselaw29.TransferPlays", spec := "transferPlays", apart := false }
def TransferPlaysSaid : Prop := transferPlaysRow.holds Try.pinned (OpenSpec.ofChange transferPlaysSpec)

/-- ITS FALSE NEIGHBOUR: 'it returns false'. Refute it at one input. -/
def transferPlaysWrong : ChangeSpec := { name := "transferPlays", fn := fun _ => fun
  | [d1, d2, d3] => { results := [.lit (.bool false)], args := [d1, d2, d3] }
  | _ => none }
def TransferPlaysWrongFalsely : Prop := transferPlaysRow.holds Try.pinned (OpenSpec.ofChange transferPlaysWrong)

/-- 'rootcauselaw29.TransferEnds': WHATEVER THE INPUT: true; the input reads as it did. -/
def transferEndsSpec : ChangeSpec := { name := "transferEnds", fn := fun _ => fun
  | [d1, d2, d3] => { results := [.lit (.bool true)], args := [d1, d2, d3] }
  | _ => none }
def transferEndsRow : OpenClaim := { program := "ytknllmcpogoeoaa", sum := "437f66dbd8c8bc3837729f8f003e4d51dea0127358d8bf60496295b8dd7cefb5", func := "rootcause/rootcauselaw29.TransferEnds", spec := "transferEnds", apart := false }
def TransferEndsSaid : Prop := transferEndsRow.holds Try.pinned (OpenSpec.ofChange transferEndsSpec)

/-- ITS FALSE NEIGHBOUR: 'it returns false'. Refute it at one input. -/
def transferEndsWrong : ChangeSpec := { name := "transferEnds", fn := fun _ => fun
  | [d1, d2, d3] => { results := [.lit (.bool false)], args := [d1, d2, d3] }
  | _ => none }
def TransferEndsWrongFalsely : Prop := transferEndsRow.holds Try.pinned (OpenSpec.ofChange transferEndsWrong)

/- THE SECOND FORM. 'bulk': how many values and letters a reading holds, each counted each time it is reached (what is shared counts as often as it is met; a slice's spare places count too). A statement '..UptoSaid' is the law's where the arguments, and the package variables that the reading takes, are together of bulk at most 1048576: NARROWER than '..Said'. Prove '..Said' where nothing that the law and all that it calls make is longer than what came in: it says more and counts as full. Else prove '..UptoSaid'. A law counts once. -/
mutual
def uptoBulk {H : Type} : DataW H → Nat
  | .lit (.string bytes) => bytes.length + 1
  | .lit _ => 1
  | .nil => 1
  | .ptr d => uptoBulk d + 1
  | .slice elems spare => uptoBulkAll elems + uptoBulkAll spare + 1
  | .agg parts => uptoBulkAll parts + 1
  | .iface _ d => uptoBulk d + 1
  | .map entries => uptoBulkEntries entries + 1
  | .held _ => 1
def uptoBulkAll {H : Type} : List (DataW H) → Nat
  | [] => 0
  | d :: r => uptoBulk d + uptoBulkAll r
def uptoBulkEntries {H : Type} : List (Lit × DataW H) → Nat
  | [] => 0
  | x :: r => uptoBulkEntry x + uptoBulkEntries r
def uptoBulkEntry {H : Type} : Lit × DataW H → Nat
  | (.string bytes, d) => bytes.length + uptoBulk d + 1
  | (_, d) => uptoBulk d + 1
 end
def uptoSmall : (H : Type) → List (DataW H) → Bool := fun _ ds => decide (uptoBulkAll ds ≤ 1048576)
def OpenSpec.upto (s : _root_.Go.ChangeSpec) : _root_.Go.OpenSpec := { _root_.Go.OpenSpec.ofChange s with cond := some uptoSmall }

/-- 'rootcauselaw03.FrameAppends', WHERE WHAT IT READS IS OF BULK AT MOST 1048576: true; the input reads as it did. -/
def frameAppendsUptoRow : OpenClaim := { program := "ytknllmcpogoeoaa", sum := "437f66dbd8c8bc3837729f8f003e4d51dea0127358d8bf60496295b8dd7cefb5", func := "rootcause/rootcauselaw03.FrameAppends", spec := "frameAppends", unfollowed := true, recurses := true, apart := false, narrowed := true }
def FrameAppendsUptoSaid : Prop := frameAppendsUptoRow.holds Try.pinned (OpenSpec.upto frameAppendsSpec)

/-- 'rootcauselaw03.FrameScans', WHERE WHAT IT READS IS OF BULK AT MOST 1048576: true; the input reads as it did. -/
def frameScansUptoRow : OpenClaim := { program := "ytknllmcpogoeoaa", sum := "437f66dbd8c8bc3837729f8f003e4d51dea0127358d8bf60496295b8dd7cefb5", func := "rootcause/rootcauselaw03.FrameScans", spec := "frameScans", unfollowed := true, recurses := true, apart := false, narrowed := true }
def FrameScansUptoSaid : Prop := frameScansUptoRow.holds Try.pinned (OpenSpec.upto frameScansSpec)

/-- 'rootcauselaw03.FrameCovers', WHERE WHAT IT READS IS OF BULK AT MOST 1048576: true; the input reads as it did. -/
def frameCoversUptoRow : OpenClaim := { program := "ytknllmcpogoeoaa", sum := "437f66dbd8c8bc3837729f8f003e4d51dea0127358d8bf60496295b8dd7cefb5", func := "rootcause/rootcauselaw03.FrameCovers", spec := "frameCovers", unfollowed := true, recurses := true, apart := false, narrowed := true }
def FrameCoversUptoSaid : Prop := frameCoversUptoRow.holds Try.pinned (OpenSpec.upto frameCoversSpec)

/-- 'rootcauselaw03.FrameBodies', WHERE WHAT IT READS IS OF BULK AT MOST 1048576: true; the input reads as it did. -/
def frameBodiesUptoRow : OpenClaim := { program := "ytknllmcpogoeoaa", sum := "437f66dbd8c8bc3837729f8f003e4d51dea0127358d8bf60496295b8dd7cefb5", func := "rootcause/rootcauselaw03.FrameBodies", spec := "frameBodies", unfollowed := true, recurses := true, apart := false, narrowed := true }
def FrameBodiesUptoSaid : Prop := frameBodiesUptoRow.holds Try.pinned (OpenSpec.upto frameBodiesSpec)

/-- 'rootcauselaw03.FrameStops', WHERE WHAT IT READS IS OF BULK AT MOST 1048576: true; the input reads as it did. -/
def frameStopsUptoRow : OpenClaim := { program := "ytknllmcpogoeoaa", sum := "437f66dbd8c8bc3837729f8f003e4d51dea0127358d8bf60496295b8dd7cefb5", func := "rootcause/rootcauselaw03.FrameStops", spec := "frameStops", unfollowed := true, recurses := true, apart := false, narrowed := true }
def FrameStopsUptoSaid : Prop := frameStopsUptoRow.holds Try.pinned (OpenSpec.upto frameStopsSpec)

/-- 'rootcauselaw03.FrameReturns', WHERE WHAT IT READS IS OF BULK AT MOST 1048576: true; the input reads as it did. -/
def frameReturnsUptoRow : OpenClaim := { program := "ytknllmcpogoeoaa", sum := "437f66dbd8c8bc3837729f8f003e4d51dea0127358d8bf60496295b8dd7cefb5", func := "rootcause/rootcauselaw03.FrameReturns", spec := "frameReturns", unfollowed := true, recurses := true, apart := false, narrowed := true }
def FrameReturnsUptoSaid : Prop := frameReturnsUptoRow.holds Try.pinned (OpenSpec.upto frameReturnsSpec)

/-- 'rootcauselaw03.FrameCuts', WHERE WHAT IT READS IS OF BULK AT MOST 1048576: true; the input reads as it did. -/
def frameCutsUptoRow : OpenClaim := { program := "ytknllmcpogoeoaa", sum := "437f66dbd8c8bc3837729f8f003e4d51dea0127358d8bf60496295b8dd7cefb5", func := "rootcause/rootcauselaw03.FrameCuts", spec := "frameCuts", unfollowed := true, recurses := true, apart := false, narrowed := true }
def FrameCutsUptoSaid : Prop := frameCutsUptoRow.holds Try.pinned (OpenSpec.upto frameCutsSpec)

/-- 'rootcauselaw03.FrameDamaged', WHERE WHAT IT READS IS OF BULK AT MOST 1048576: true; the input reads as it did. -/
def frameDamagedUptoRow : OpenClaim := { program := "ytknllmcpogoeoaa", sum := "437f66dbd8c8bc3837729f8f003e4d51dea0127358d8bf60496295b8dd7cefb5", func := "rootcause/rootcauselaw03.FrameDamaged", spec := "frameDamaged", unfollowed := true, recurses := true, apart := false, narrowed := true }
def FrameDamagedUptoSaid : Prop := frameDamagedUptoRow.holds Try.pinned (OpenSpec.upto frameDamagedSpec)

/-- 'rootcauselaw03.FrameBursts', WHERE WHAT IT READS IS OF BULK AT MOST 1048576: true; the input reads as it did. -/
def frameBurstsUptoRow : OpenClaim := { program := "ytknllmcpogoeoaa", sum := "437f66dbd8c8bc3837729f8f003e4d51dea0127358d8bf60496295b8dd7cefb5", func := "rootcause/rootcauselaw03.FrameBursts", spec := "frameBursts", unfollowed := true, recurses := true, apart := false, narrowed := true }
def FrameBurstsUptoSaid : Prop := frameBurstsUptoRow.holds Try.pinned (OpenSpec.upto frameBurstsSpec)

/-- 'rootcauselaw01.NumUints', WHERE WHAT IT READS IS OF BULK AT MOST 1048576: true; the input reads as it did. -/
def numUintsUptoRow : OpenClaim := { program := "ytknllmcpogoeoaa", sum := "437f66dbd8c8bc3837729f8f003e4d51dea0127358d8bf60496295b8dd7cefb5", func := "rootcause/rootcauselaw01.NumUints", spec := "numUints", apart := false, narrowed := true }
def NumUintsUptoSaid : Prop := numUintsUptoRow.holds Try.pinned (OpenSpec.upto numUintsSpec)

/-- 'rootcauselaw29.TransferNil', WHERE WHAT IT READS IS OF BULK AT MOST 1048576: true; the input reads as it did. -/
def transferNilUptoRow : OpenClaim := { program := "ytknllmcpogoeoaa", sum := "437f66dbd8c8bc3837729f8f003e4d51dea0127358d8bf60496295b8dd7cefb5", func := "rootcause/rootcauselaw29.TransferNil", spec := "transferNil", apart := false, narrowed := true }
def TransferNilUptoSaid : Prop := transferNilUptoRow.holds Try.pinned (OpenSpec.upto transferNilSpec)

/-- 'rootcauselaw01.NumOnce', WHERE WHAT IT READS IS OF BULK AT MOST 1048576: true; the input reads as it did. -/
def numOnceUptoRow : OpenClaim := { program := "ytknllmcpogoeoaa", sum := "437f66dbd8c8bc3837729f8f003e4d51dea0127358d8bf60496295b8dd7cefb5", func := "rootcause/rootcauselaw01.NumOnce", spec := "numOnce", apart := false, narrowed := true }
def NumOnceUptoSaid : Prop := numOnceUptoRow.holds Try.pinned (OpenSpec.upto numOnceSpec)

/-- 'rootcauselaw01.NumSigns', WHERE WHAT IT READS IS OF BULK AT MOST 1048576: true; the input reads as it did. -/
def numSignsUptoRow : OpenClaim := { program := "ytknllmcpogoeoaa", sum := "437f66dbd8c8bc3837729f8f003e4d51dea0127358d8bf60496295b8dd7cefb5", func := "rootcause/rootcauselaw01.NumSigns", spec := "numSigns", apart := false, narrowed := true }
def NumSignsUptoSaid : Prop := numSignsUptoRow.holds Try.pinned (OpenSpec.upto numSignsSpec)

/-- 'rootcauselaw26.RingFiles', WHERE WHAT IT READS IS OF BULK AT MOST 1048576: true; the input reads as it did. -/
def ringFilesUptoRow : OpenClaim := { program := "ytknllmcpogoeoaa", sum := "437f66dbd8c8bc3837729f8f003e4d51dea0127358d8bf60496295b8dd7cefb5", func := "rootcause/rootcauselaw26.RingFiles", spec := "ringFiles", unfollowed := true, recurses := true, apart := false, narrowed := true }
def RingFilesUptoSaid : Prop := ringFilesUptoRow.holds Try.pinned (OpenSpec.upto ringFilesSpec)

/-- 'rootcauselaw01.NumBytes', WHERE WHAT IT READS IS OF BULK AT MOST 1048576: true; the input reads as it did. -/
def numBytesUptoRow : OpenClaim := { program := "ytknllmcpogoeoaa", sum := "437f66dbd8c8bc3837729f8f003e4d51dea0127358d8bf60496295b8dd7cefb5", func := "rootcause/rootcauselaw01.NumBytes", spec := "numBytes", apart := false, narrowed := true }
def NumBytesUptoSaid : Prop := numBytesUptoRow.holds Try.pinned (OpenSpec.upto numBytesSpec)

/-- 'rootcauselaw01.NumBack', WHERE WHAT IT READS IS OF BULK AT MOST 1048576: true; the input reads as it did. -/
def numBackUptoRow : OpenClaim := { program := "ytknllmcpogoeoaa", sum := "437f66dbd8c8bc3837729f8f003e4d51dea0127358d8bf60496295b8dd7cefb5", func := "rootcause/rootcauselaw01.NumBack", spec := "numBack", apart := false, narrowed := true }
def NumBackUptoSaid : Prop := numBackUptoRow.holds Try.pinned (OpenSpec.upto numBackSpec)

/-- 'rootcauselaw01.NumRows', WHERE WHAT IT READS IS OF BULK AT MOST 1048576: true; the input reads as it did. -/
def numRowsUptoRow : OpenClaim := { program := "ytknllmcpogoeoaa", sum := "437f66dbd8c8bc3837729f8f003e4d51dea0127358d8bf60496295b8dd7cefb5", func := "rootcause/rootcauselaw01.NumRows", spec := "numRows", apart := false, narrowed := true }
def NumRowsUptoSaid : Prop := numRowsUptoRow.holds Try.pinned (OpenSpec.upto numRowsSpec)

/-- 'rootcauselaw01.NumReads', WHERE WHAT IT READS IS OF BULK AT MOST 1048576: true; the input reads as it did. -/
def numReadsUptoRow : OpenClaim := { program := "ytknllmcpogoeoaa", sum := "437f66dbd8c8bc3837729f8f003e4d51dea0127358d8bf60496295b8dd7cefb5", func := "rootcause/rootcauselaw01.NumReads", spec := "numReads", apart := false, narrowed := true }
def NumReadsUptoSaid : Prop := numReadsUptoRow.holds Try.pinned (OpenSpec.upto numReadsSpec)

/-- 'rootcauselaw01.NumNil', WHERE WHAT IT READS IS OF BULK AT MOST 1048576: true; the input reads as it did. -/
def numNilUptoRow : OpenClaim := { program := "ytknllmcpogoeoaa", sum := "437f66dbd8c8bc3837729f8f003e4d51dea0127358d8bf60496295b8dd7cefb5", func := "rootcause/rootcauselaw01.NumNil", spec := "numNil", apart := false, narrowed := true }
def NumNilUptoSaid : Prop := numNilUptoRow.holds Try.pinned (OpenSpec.upto numNilSpec)

/-- 'rootcauselaw03.FrameNumbers', WHERE WHAT IT READS IS OF BULK AT MOST 1048576: true; the input reads as it did. -/
def frameNumbersUptoRow : OpenClaim := { program := "ytknllmcpogoeoaa", sum := "437f66dbd8c8bc3837729f8f003e4d51dea0127358d8bf60496295b8dd7cefb5", func := "rootcause/rootcauselaw03.FrameNumbers", spec := "frameNumbers", unfollowed := true, recurses := true, apart := false, narrowed := true }
def FrameNumbersUptoSaid : Prop := frameNumbersUptoRow.holds Try.pinned (OpenSpec.upto frameNumbersSpec)

/-- 'rootcauselaw26.RingWide', WHERE WHAT IT READS IS OF BULK AT MOST 1048576: true; the input reads as it did. -/
def ringWideUptoRow : OpenClaim := { program := "ytknllmcpogoeoaa", sum := "437f66dbd8c8bc3837729f8f003e4d51dea0127358d8bf60496295b8dd7cefb5", func := "rootcause/rootcauselaw26.RingWide", spec := "ringWide", apart := false, narrowed := true }
def RingWideUptoSaid : Prop := ringWideUptoRow.holds Try.pinned (OpenSpec.upto ringWideSpec)

/-- 'rootcauselaw26.RingNewest', WHERE WHAT IT READS IS OF BULK AT MOST 1048576: true; the input reads as it did. -/
def ringNewestUptoRow : OpenClaim := { program := "ytknllmcpogoeoaa", sum := "437f66dbd8c8bc3837729f8f003e4d51dea0127358d8bf60496295b8dd7cefb5", func := "rootcause/rootcauselaw26.RingNewest", spec := "ringNewest", apart := false, narrowed := true }
def RingNewestUptoSaid : Prop := ringNewestUptoRow.holds Try.pinned (OpenSpec.upto ringNewestSpec)

/-- 'rootcauselaw26.RingPlays', WHERE WHAT IT READS IS OF BULK AT MOST 1048576: true; the input reads as it did. -/
def ringPlaysUptoRow : OpenClaim := { program := "ytknllmcpogoeoaa", sum := "437f66dbd8c8bc3837729f8f003e4d51dea0127358d8bf60496295b8dd7cefb5", func := "rootcause/rootcauselaw26.RingPlays", spec := "ringPlays", apart := false, narrowed := true }
def RingPlaysUptoSaid : Prop := ringPlaysUptoRow.holds Try.pinned (OpenSpec.upto ringPlaysSpec)

/-- 'rootcauselaw26.RingErrs', WHERE WHAT IT READS IS OF BULK AT MOST 1048576: true; the input reads as it did. -/
def ringErrsUptoRow : OpenClaim := { program := "ytknllmcpogoeoaa", sum := "437f66dbd8c8bc3837729f8f003e4d51dea0127358d8bf60496295b8dd7cefb5", func := "rootcause/rootcauselaw26.RingErrs", spec := "ringErrs", apart := false, narrowed := true }
def RingErrsUptoSaid : Prop := ringErrsUptoRow.holds Try.pinned (OpenSpec.upto ringErrsSpec)

/-- 'rootcauselaw29.TransferRefuses', WHERE WHAT IT READS IS OF BULK AT MOST 1048576: true; the input reads as it did. -/
def transferRefusesUptoRow : OpenClaim := { program := "ytknllmcpogoeoaa", sum := "437f66dbd8c8bc3837729f8f003e4d51dea0127358d8bf60496295b8dd7cefb5", func := "rootcause/rootcauselaw29.TransferRefuses", spec := "transferRefuses", apart := false, narrowed := true }
def TransferRefusesUptoSaid : Prop := transferRefusesUptoRow.holds Try.pinned (OpenSpec.upto transferRefusesSpec)

/-- 'rootcauselaw29.TransferRange', WHERE WHAT IT READS IS OF BULK AT MOST 1048576: true; the input reads as it did. -/
def transferRangeUptoRow : OpenClaim := { program := "ytknllmcpogoeoaa", sum := "437f66dbd8c8bc3837729f8f003e4d51dea0127358d8bf60496295b8dd7cefb5", func := "rootcause/rootcauselaw29.TransferRange", spec := "transferRange", apart := false, narrowed := true }
def TransferRangeUptoSaid : Prop := transferRangeUptoRow.holds Try.pinned (OpenSpec.upto transferRangeSpec)

/-- 'rootcauselaw29.TransferOwns', WHERE WHAT IT READS IS OF BULK AT MOST 1048576: true; the input reads as it did. -/
def transferOwnsUptoRow : OpenClaim := { program := "ytknllmcpogoeoaa", sum := "437f66dbd8c8bc3837729f8f003e4d51dea0127358d8bf60496295b8dd7cefb5", func := "rootcause/rootcauselaw29.TransferOwns", spec := "transferOwns", apart := false, narrowed := true }
def TransferOwnsUptoSaid : Prop := transferOwnsUptoRow.holds Try.pinned (OpenSpec.upto transferOwnsSpec)

/-- 'rootcauselaw29.TransferPlays', WHERE WHAT IT READS IS OF BULK AT MOST 1048576: true; the input reads as it did. -/
def transferPlaysUptoRow : OpenClaim := { program := "ytknllmcpogoeoaa", sum := "437f66dbd8c8bc3837729f8f003e4d51dea0127358d8bf60496295b8dd7cefb5", func := "rootcause/rootcauselaw29.TransferPlays", spec := "transferPlays", apart := false, narrowed := true }
def TransferPlaysUptoSaid : Prop := transferPlaysUptoRow.holds Try.pinned (OpenSpec.upto transferPlaysSpec)

/-- 'rootcauselaw29.TransferEnds', WHERE WHAT IT READS IS OF BULK AT MOST 1048576: true; the input reads as it did. -/
def transferEndsUptoRow : OpenClaim := { program := "ytknllmcpogoeoaa", sum := "437f66dbd8c8bc3837729f8f003e4d51dea0127358d8bf60496295b8dd7cefb5", func := "rootcause/rootcauselaw29.TransferEnds", spec := "transferEnds", apart := false, narrowed := true }
def TransferEndsUptoSaid : Prop := transferEndsUptoRow.holds Try.pinned (OpenSpec.upto transferEndsSpec)

end Rows
end Go.Proofs.Ytknllmcpogoeoaa
