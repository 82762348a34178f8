/-
  DERIVED. GIVEN WITH THE SEED: THE CARDS: each row of YtddiloillgbneaaDoorRows.lean that lists a variable, with what it lists TIED to the program's text (the seventh form; the later family's looks); each row that meets fmt, with fmt's text TOLD by the authors' own Lean function (tested against real Go, not proved from fmt's source: count such statements apart). THE CARD IS WHAT COUNTS. Prove the row's statement (the work); the ties are given (YtddiloillgbneaaDoorTie.lean); close each card by the builder's one call (the guide's Derived/Test/ToyasCard.lean, 'card_holds'). Laid BY PROGRAM, IN A SANDBOX (cutbox-door.mjs). By AI agents, Wed Nov 11 2026. No macro, syntax, notation, axiom, sorry.
-/
import Derived.Test.YtddiloillgbneaaDoorRows
import GoSem.ClaimSeven
namespace Go.Proofs.YtddiloillgbneaaDoor
namespace Rows

/-- THE TIED CARD OF 'laws.FnFrameValid'. -/
def fnFrameValidCard : Claim7 := { stood := { row := fnFrameValidRow, standIns := [], harness := (true, "b5a164413b8603121edd57a5622893315f97a931d26fbb20afbc080117f61a63"), looks := false }, kinds := [], alts := [], laidByText := true, laidKinds := [.data, .data, .data], laidTests := true, laidLooks := .later }
def FnFrameValidCardSaid : Prop := Claim7.holds Tryd.pinned (.plain (OpenSpec.ofChange fnFrameValidSpec)) fnFrameValidCard

/-- THE TIED CARD OF 'laws.FnFrameBytes'. -/
def fnFrameBytesCard : Claim7 := { stood := { row := fnFrameBytesRow, standIns := [], harness := (true, "b5a164413b8603121edd57a5622893315f97a931d26fbb20afbc080117f61a63"), looks := false }, kinds := [], alts := [], laidByText := true, laidKinds := [.data, .data, .data], laidTests := true, laidLooks := .later }
def FnFrameBytesCardSaid : Prop := Claim7.holds Tryd.pinned (.plain (OpenSpec.ofChange fnFrameBytesSpec)) fnFrameBytesCard

/-- THE TIED CARD OF 'laws.FnReadFrame'. -/
def fnReadFrameCard : Claim7 := { stood := { row := fnReadFrameRow, standIns := [], harness := (true, "b5a164413b8603121edd57a5622893315f97a931d26fbb20afbc080117f61a63"), looks := false }, kinds := [], alts := [], laidByText := true, laidKinds := [.data, .data, .data], laidTests := true, laidLooks := .later }
def FnReadFrameCardSaid : Prop := Claim7.holds Tryd.pinned (.plain (OpenSpec.ofChange fnReadFrameSpec)) fnReadFrameCard

/-- THE TIED CARD OF 'laws.FnReadFrames'. -/
def fnReadFramesCard : Claim7 := { stood := { row := fnReadFramesRow, standIns := [], harness := (true, "b5a164413b8603121edd57a5622893315f97a931d26fbb20afbc080117f61a63"), looks := false }, kinds := [], alts := [], laidByText := true, laidKinds := [.data, .data, .data], laidTests := true, laidLooks := .later }
def FnReadFramesCardSaid : Prop := Claim7.holds Tryd.pinned (.plain (OpenSpec.ofChange fnReadFramesSpec)) fnReadFramesCard

/-- THE SECOND FORM's CARD OF 'laws.FnFrameValid'. -/
def fnFrameValidUptoCard : Claim7 := { stood := { row := fnFrameValidUptoRow, standIns := [], harness := (true, "b5a164413b8603121edd57a5622893315f97a931d26fbb20afbc080117f61a63"), looks := false }, kinds := [], alts := [], laidByText := true, laidKinds := [.data, .data, .data], laidTests := true, laidLooks := .later }
def FnFrameValidUptoCardSaid : Prop := Claim7.holds Tryd.pinned (.plain (OpenSpec.upto fnFrameValidSpec)) fnFrameValidUptoCard

/-- THE SECOND FORM's CARD OF 'laws.FnFrameBytes'. -/
def fnFrameBytesUptoCard : Claim7 := { stood := { row := fnFrameBytesUptoRow, standIns := [], harness := (true, "b5a164413b8603121edd57a5622893315f97a931d26fbb20afbc080117f61a63"), looks := false }, kinds := [], alts := [], laidByText := true, laidKinds := [.data, .data, .data], laidTests := true, laidLooks := .later }
def FnFrameBytesUptoCardSaid : Prop := Claim7.holds Tryd.pinned (.plain (OpenSpec.upto fnFrameBytesSpec)) fnFrameBytesUptoCard

/-- THE SECOND FORM's CARD OF 'laws.FnReadFrame'. -/
def fnReadFrameUptoCard : Claim7 := { stood := { row := fnReadFrameUptoRow, standIns := [], harness := (true, "b5a164413b8603121edd57a5622893315f97a931d26fbb20afbc080117f61a63"), looks := false }, kinds := [], alts := [], laidByText := true, laidKinds := [.data, .data, .data], laidTests := true, laidLooks := .later }
def FnReadFrameUptoCardSaid : Prop := Claim7.holds Tryd.pinned (.plain (OpenSpec.upto fnReadFrameSpec)) fnReadFrameUptoCard

/-- THE SECOND FORM's CARD OF 'laws.FnReadFrames'. -/
def fnReadFramesUptoCard : Claim7 := { stood := { row := fnReadFramesUptoRow, standIns := [], harness := (true, "b5a164413b8603121edd57a5622893315f97a931d26fbb20afbc080117f61a63"), looks := false }, kinds := [], alts := [], laidByText := true, laidKinds := [.data, .data, .data], laidTests := true, laidLooks := .later }
def FnReadFramesUptoCardSaid : Prop := Claim7.holds Tryd.pinned (.plain (OpenSpec.upto fnReadFramesSpec)) fnReadFramesUptoCard
end Rows
end Go.Proofs.YtddiloillgbneaaDoor
