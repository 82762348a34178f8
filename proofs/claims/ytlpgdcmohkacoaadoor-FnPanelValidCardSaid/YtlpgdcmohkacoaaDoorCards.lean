/-
  DERIVED. GIVEN WITH THE SEED: THE CARDS: each row of YtlpgdcmohkacoaaDoorRows.lean that lists a variable, with what it lists TIED to the program's text (the seventh form; the later family's looks); each row that meets fmt, with fmt's text TOLD by the authors' own Lean function (tested against real Go, not proved from fmt's source: count such statements apart). THE CARD IS WHAT COUNTS. Prove the row's statement (the work); the ties are given (YtlpgdcmohkacoaaDoorTie.lean); close each card by the builder's one call (the guide's Derived/Test/ToyasCard.lean, 'card_holds'). Laid BY PROGRAM, IN A SANDBOX (cutbox-door.mjs). By AI agents, Wed Nov 11 2026. No macro, syntax, notation, axiom, sorry.
-/
import Derived.Test.YtlpgdcmohkacoaaDoorRows
import GoSem.ClaimSeven
namespace Go.Proofs.YtlpgdcmohkacoaaDoor
namespace Rows

/-- THE TIED CARD OF 'laws.FnPanelValid'. -/
def fnPanelValidCard : Claim7 := { stood := { row := fnPanelValidRow, standIns := [], harness := (true, "7eddc92c36771c1183d20970132ab698fc1c4ddbfcf80f5d7f3ca6b5da0ede48"), looks := false }, kinds := [], alts := [], laidByText := true, laidKinds := [.data, .data, .data], laidTests := true, laidLooks := .later }
def FnPanelValidCardSaid : Prop := Claim7.holds Tryd.pinned (.plain (OpenSpec.ofChange fnPanelValidSpec)) fnPanelValidCard

/-- THE SECOND FORM's CARD OF 'laws.FnPanelValid'. -/
def fnPanelValidUptoCard : Claim7 := { stood := { row := fnPanelValidUptoRow, standIns := [], harness := (true, "7eddc92c36771c1183d20970132ab698fc1c4ddbfcf80f5d7f3ca6b5da0ede48"), looks := false }, kinds := [], alts := [], laidByText := true, laidKinds := [.data, .data, .data], laidTests := true, laidLooks := .later }
def FnPanelValidUptoCardSaid : Prop := Claim7.holds Tryd.pinned (.plain (OpenSpec.upto fnPanelValidSpec)) fnPanelValidUptoCard
end Rows
end Go.Proofs.YtlpgdcmohkacoaaDoor
