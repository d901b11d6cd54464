/-
  DERIVED. GIVEN WITH THE SEED: THE CARDS: each row of YtknllmcpogoeoaaDoorRows.lean that lists a variable, with what it lists TIED to the program's text (the seventh form; the later family's looks); each row that meets fmt, with fmt's text TOLD by the authors' own Lean function (tested against real Go, not proved from fmt's source: count such statements apart). THE CARD IS WHAT COUNTS. Prove the row's statement (the work); the ties are given (YtknllmcpogoeoaaDoorTie.lean); close each card by the builder's one call (the guide's Derived/Test/ToyasCard.lean, 'card_holds'). Laid BY PROGRAM, IN A SANDBOX (cutbox-door.mjs). By AI agents, Wed Nov 11 2026. No macro, syntax, notation, axiom, sorry.
-/
import Derived.Test.YtknllmcpogoeoaaDoorRows
import GoSem.ClaimSeven
namespace Go.Proofs.YtknllmcpogoeoaaDoor
namespace Rows

/-- THE TIED CARD OF 'rootcauselaw02.DigestSums'. -/
def digestSumsCard : Claim7 := { stood := { row := digestSumsRow, standIns := [], harness := (true, "9b086496c7db45f54557b40e34ea2cd501bd8764cababf7458206d0d6907fe1f"), looks := false }, kinds := [], alts := [], laidByText := true, laidKinds := [.data], laidTests := true, laidLooks := .later }
def DigestSumsCardSaid : Prop := Claim7.holds Tryd.pinned (.plain (OpenSpec.ofChange digestSumsSpec)) digestSumsCard

/-- THE TIED CARD OF 'rootcauselaw02.DigestKeeps'. -/
def digestKeepsCard : Claim7 := { stood := { row := digestKeepsRow, standIns := [], harness := (true, "9b086496c7db45f54557b40e34ea2cd501bd8764cababf7458206d0d6907fe1f"), looks := false }, kinds := [], alts := [], laidByText := true, laidKinds := [.data], laidTests := true, laidLooks := .later }
def DigestKeepsCardSaid : Prop := Claim7.holds Tryd.pinned (.plain (OpenSpec.ofChange digestKeepsSpec)) digestKeepsCard

/-- THE TIED CARD OF 'rootcauselaw02.DigestOrders'. -/
def digestOrdersCard : Claim7 := { stood := { row := digestOrdersRow, standIns := [], harness := (true, "9b086496c7db45f54557b40e34ea2cd501bd8764cababf7458206d0d6907fe1f"), looks := false }, kinds := [], alts := [], laidByText := true, laidKinds := [.data], laidTests := true, laidLooks := .later }
def DigestOrdersCardSaid : Prop := Claim7.holds Tryd.pinned (.plain (OpenSpec.ofChange digestOrdersSpec)) digestOrdersCard

/-- THE TIED CARD OF 'rootcauselaw02.DigestPieces'. -/
def digestPiecesCard : Claim7 := { stood := { row := digestPiecesRow, standIns := [], harness := (true, "9b086496c7db45f54557b40e34ea2cd501bd8764cababf7458206d0d6907fe1f"), looks := false }, kinds := [], alts := [], laidByText := true, laidKinds := [.data], laidTests := true, laidLooks := .later }
def DigestPiecesCardSaid : Prop := Claim7.holds Tryd.pinned (.plain (OpenSpec.ofChange digestPiecesSpec)) digestPiecesCard

/-- THE TIED CARD OF 'rootcauselaw02.DigestCopies'. -/
def digestCopiesCard : Claim7 := { stood := { row := digestCopiesRow, standIns := [], harness := (true, "9b086496c7db45f54557b40e34ea2cd501bd8764cababf7458206d0d6907fe1f"), looks := false }, kinds := [], alts := [], laidByText := true, laidKinds := [.data], laidTests := true, laidLooks := .later }
def DigestCopiesCardSaid : Prop := Claim7.holds Tryd.pinned (.plain (OpenSpec.ofChange digestCopiesSpec)) digestCopiesCard

/-- THE TIED CARD OF 'rootcauselaw02.DigestNil'. -/
def digestNilCard : Claim7 := { stood := { row := digestNilRow, standIns := [], harness := (true, "9b086496c7db45f54557b40e34ea2cd501bd8764cababf7458206d0d6907fe1f"), looks := false }, kinds := [], alts := [], laidByText := true, laidKinds := [.data], laidTests := true, laidLooks := .later }
def DigestNilCardSaid : Prop := Claim7.holds Tryd.pinned (.plain (OpenSpec.ofChange digestNilSpec)) digestNilCard

/-- THE TIED CARD OF 'rootcauselaw02.DigestParts'. -/
def digestPartsCard : Claim7 := { stood := { row := digestPartsRow, standIns := [], harness := (true, "9b086496c7db45f54557b40e34ea2cd501bd8764cababf7458206d0d6907fe1f"), looks := false }, kinds := [], alts := [], laidByText := true, laidKinds := [.data], laidTests := true, laidLooks := .later }
def DigestPartsCardSaid : Prop := Claim7.holds Tryd.pinned (.plain (OpenSpec.ofChange digestPartsSpec)) digestPartsCard

/-- THE TIED CARD OF 'rootcauselaw02.DigestTexts'. -/
def digestTextsCard : Claim7 := { stood := { row := digestTextsRow, standIns := [], harness := (true, "9b086496c7db45f54557b40e34ea2cd501bd8764cababf7458206d0d6907fe1f"), looks := false }, kinds := [], alts := [], laidByText := true, laidKinds := [.data], laidTests := true, laidLooks := .later }
def DigestTextsCardSaid : Prop := Claim7.holds Tryd.pinned (.plain (OpenSpec.ofChange digestTextsSpec)) digestTextsCard

/-- THE TIED CARD OF 'rootcauselaw02.DigestParses'. -/
def digestParsesCard : Claim7 := { stood := { row := digestParsesRow, standIns := [], harness := (true, "9b086496c7db45f54557b40e34ea2cd501bd8764cababf7458206d0d6907fe1f"), looks := false }, kinds := [], alts := [], laidByText := true, laidKinds := [.data], laidTests := true, laidLooks := .later }
def DigestParsesCardSaid : Prop := Claim7.holds Tryd.pinned (.plain (OpenSpec.ofChange digestParsesSpec)) digestParsesCard

/-- THE TIED CARD OF 'rootcauselaw03.FrameDigests'. -/
def frameDigestsCard : Claim7 := { stood := { row := frameDigestsRow, standIns := [], harness := (true, "9b086496c7db45f54557b40e34ea2cd501bd8764cababf7458206d0d6907fe1f"), looks := false }, kinds := [], alts := [], laidByText := true, laidKinds := [.data], laidTests := true, laidLooks := .later }
def FrameDigestsCardSaid : Prop := Claim7.holds Tryd.pinned (.plain (OpenSpec.ofChange frameDigestsSpec)) frameDigestsCard

/-- THE TIED CARD OF 'rootcauselaw02.DigestLong'. -/
def digestLongCard : Claim7 := { stood := { row := digestLongRow, standIns := [], harness := (true, "9b086496c7db45f54557b40e34ea2cd501bd8764cababf7458206d0d6907fe1f"), looks := false }, kinds := [], alts := [], laidByText := true, laidKinds := [.data], laidTests := true, laidLooks := .later }
def DigestLongCardSaid : Prop := Claim7.holds Tryd.pinned (.plain (OpenSpec.ofChange digestLongSpec)) digestLongCard

/-- THE SECOND FORM's CARD OF 'rootcauselaw02.DigestSums'. -/
def digestSumsUptoCard : Claim7 := { stood := { row := digestSumsUptoRow, standIns := [], harness := (true, "9b086496c7db45f54557b40e34ea2cd501bd8764cababf7458206d0d6907fe1f"), looks := false }, kinds := [], alts := [], laidByText := true, laidKinds := [.data], laidTests := true, laidLooks := .later }
def DigestSumsUptoCardSaid : Prop := Claim7.holds Tryd.pinned (.plain (OpenSpec.upto digestSumsSpec)) digestSumsUptoCard

/-- THE SECOND FORM's CARD OF 'rootcauselaw02.DigestKeeps'. -/
def digestKeepsUptoCard : Claim7 := { stood := { row := digestKeepsUptoRow, standIns := [], harness := (true, "9b086496c7db45f54557b40e34ea2cd501bd8764cababf7458206d0d6907fe1f"), looks := false }, kinds := [], alts := [], laidByText := true, laidKinds := [.data], laidTests := true, laidLooks := .later }
def DigestKeepsUptoCardSaid : Prop := Claim7.holds Tryd.pinned (.plain (OpenSpec.upto digestKeepsSpec)) digestKeepsUptoCard

/-- THE SECOND FORM's CARD OF 'rootcauselaw02.DigestOrders'. -/
def digestOrdersUptoCard : Claim7 := { stood := { row := digestOrdersUptoRow, standIns := [], harness := (true, "9b086496c7db45f54557b40e34ea2cd501bd8764cababf7458206d0d6907fe1f"), looks := false }, kinds := [], alts := [], laidByText := true, laidKinds := [.data], laidTests := true, laidLooks := .later }
def DigestOrdersUptoCardSaid : Prop := Claim7.holds Tryd.pinned (.plain (OpenSpec.upto digestOrdersSpec)) digestOrdersUptoCard

/-- THE SECOND FORM's CARD OF 'rootcauselaw02.DigestPieces'. -/
def digestPiecesUptoCard : Claim7 := { stood := { row := digestPiecesUptoRow, standIns := [], harness := (true, "9b086496c7db45f54557b40e34ea2cd501bd8764cababf7458206d0d6907fe1f"), looks := false }, kinds := [], alts := [], laidByText := true, laidKinds := [.data], laidTests := true, laidLooks := .later }
def DigestPiecesUptoCardSaid : Prop := Claim7.holds Tryd.pinned (.plain (OpenSpec.upto digestPiecesSpec)) digestPiecesUptoCard

/-- THE SECOND FORM's CARD OF 'rootcauselaw02.DigestCopies'. -/
def digestCopiesUptoCard : Claim7 := { stood := { row := digestCopiesUptoRow, standIns := [], harness := (true, "9b086496c7db45f54557b40e34ea2cd501bd8764cababf7458206d0d6907fe1f"), looks := false }, kinds := [], alts := [], laidByText := true, laidKinds := [.data], laidTests := true, laidLooks := .later }
def DigestCopiesUptoCardSaid : Prop := Claim7.holds Tryd.pinned (.plain (OpenSpec.upto digestCopiesSpec)) digestCopiesUptoCard

/-- THE SECOND FORM's CARD OF 'rootcauselaw02.DigestNil'. -/
def digestNilUptoCard : Claim7 := { stood := { row := digestNilUptoRow, standIns := [], harness := (true, "9b086496c7db45f54557b40e34ea2cd501bd8764cababf7458206d0d6907fe1f"), looks := false }, kinds := [], alts := [], laidByText := true, laidKinds := [.data], laidTests := true, laidLooks := .later }
def DigestNilUptoCardSaid : Prop := Claim7.holds Tryd.pinned (.plain (OpenSpec.upto digestNilSpec)) digestNilUptoCard

/-- THE SECOND FORM's CARD OF 'rootcauselaw02.DigestParts'. -/
def digestPartsUptoCard : Claim7 := { stood := { row := digestPartsUptoRow, standIns := [], harness := (true, "9b086496c7db45f54557b40e34ea2cd501bd8764cababf7458206d0d6907fe1f"), looks := false }, kinds := [], alts := [], laidByText := true, laidKinds := [.data], laidTests := true, laidLooks := .later }
def DigestPartsUptoCardSaid : Prop := Claim7.holds Tryd.pinned (.plain (OpenSpec.upto digestPartsSpec)) digestPartsUptoCard

/-- THE SECOND FORM's CARD OF 'rootcauselaw02.DigestTexts'. -/
def digestTextsUptoCard : Claim7 := { stood := { row := digestTextsUptoRow, standIns := [], harness := (true, "9b086496c7db45f54557b40e34ea2cd501bd8764cababf7458206d0d6907fe1f"), looks := false }, kinds := [], alts := [], laidByText := true, laidKinds := [.data], laidTests := true, laidLooks := .later }
def DigestTextsUptoCardSaid : Prop := Claim7.holds Tryd.pinned (.plain (OpenSpec.upto digestTextsSpec)) digestTextsUptoCard

/-- THE SECOND FORM's CARD OF 'rootcauselaw02.DigestParses'. -/
def digestParsesUptoCard : Claim7 := { stood := { row := digestParsesUptoRow, standIns := [], harness := (true, "9b086496c7db45f54557b40e34ea2cd501bd8764cababf7458206d0d6907fe1f"), looks := false }, kinds := [], alts := [], laidByText := true, laidKinds := [.data], laidTests := true, laidLooks := .later }
def DigestParsesUptoCardSaid : Prop := Claim7.holds Tryd.pinned (.plain (OpenSpec.upto digestParsesSpec)) digestParsesUptoCard

/-- THE SECOND FORM's CARD OF 'rootcauselaw03.FrameDigests'. -/
def frameDigestsUptoCard : Claim7 := { stood := { row := frameDigestsUptoRow, standIns := [], harness := (true, "9b086496c7db45f54557b40e34ea2cd501bd8764cababf7458206d0d6907fe1f"), looks := false }, kinds := [], alts := [], laidByText := true, laidKinds := [.data], laidTests := true, laidLooks := .later }
def FrameDigestsUptoCardSaid : Prop := Claim7.holds Tryd.pinned (.plain (OpenSpec.upto frameDigestsSpec)) frameDigestsUptoCard

/-- THE SECOND FORM's CARD OF 'rootcauselaw02.DigestLong'. -/
def digestLongUptoCard : Claim7 := { stood := { row := digestLongUptoRow, standIns := [], harness := (true, "9b086496c7db45f54557b40e34ea2cd501bd8764cababf7458206d0d6907fe1f"), looks := false }, kinds := [], alts := [], laidByText := true, laidKinds := [.data], laidTests := true, laidLooks := .later }
def DigestLongUptoCardSaid : Prop := Claim7.holds Tryd.pinned (.plain (OpenSpec.upto digestLongSpec)) digestLongUptoCard
end Rows
end Go.Proofs.YtknllmcpogoeoaaDoor
