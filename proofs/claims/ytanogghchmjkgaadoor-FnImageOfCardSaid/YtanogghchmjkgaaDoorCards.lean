/-
  DERIVED. GIVEN WITH THE SEED: THE CARDS: each row of YtanogghchmjkgaaDoorRows.lean that lists a variable, with what it lists TIED to the program's text (the seventh form; the later family's looks); each row that meets fmt, with fmt's text TOLD by the authors' own Lean function (tested against real Go, not proved from fmt's source: count such statements apart). THE CARD IS WHAT COUNTS. Prove the row's statement (the work); the ties are given (YtanogghchmjkgaaDoorTie.lean); close each card by the builder's one call (the guide's Derived/Test/ToyasCard.lean, 'card_holds'). Laid BY PROGRAM, IN A SANDBOX (cutbox-door.mjs). By AI agents, Wed Nov 11 2026. No macro, syntax, notation, axiom, sorry.
-/
import Derived.Test.YtanogghchmjkgaaDoorRows
import GoSem.ClaimSeven
namespace Go.Proofs.YtanogghchmjkgaaDoor
namespace Rows

/-- THE TIED CARD OF 'laws.FnImageOf'. -/
def fnImageOfCard : Claim7 := { stood := { row := fnImageOfRow, standIns := [], harness := (true, "895768f6d7d82bc70c2d4f6b98533101f3a717cc8158e0732835c857b1d626d8"), looks := false }, kinds := [], alts := [], laidByText := true, laidKinds := [.data, .data, .data], laidTests := true, laidLooks := .later }
def FnImageOfCardSaid : Prop := Claim7.holds Tryd.pinned (.plain (OpenSpec.ofChange fnImageOfSpec)) fnImageOfCard

/-- THE TIED CARD OF 'laws.FnReportsOf'. -/
def fnReportsOfCard : Claim7 := { stood := { row := fnReportsOfRow, standIns := [], harness := (true, "895768f6d7d82bc70c2d4f6b98533101f3a717cc8158e0732835c857b1d626d8"), looks := false }, kinds := [], alts := [], laidByText := true, laidKinds := [.data, .data, .data], laidTests := true, laidLooks := .later }
def FnReportsOfCardSaid : Prop := Claim7.holds Tryd.pinned (.plain (OpenSpec.ofChange fnReportsOfSpec)) fnReportsOfCard

/-- THE TIED CARD OF 'laws.FnSamplesValid'. -/
def fnSamplesValidCard : Claim7 := { stood := { row := fnSamplesValidRow, standIns := [], harness := (true, "895768f6d7d82bc70c2d4f6b98533101f3a717cc8158e0732835c857b1d626d8"), looks := false }, kinds := [], alts := [], laidByText := true, laidKinds := [.data, .data, .data], laidTests := true, laidLooks := .later }
def FnSamplesValidCardSaid : Prop := Claim7.holds Tryd.pinned (.plain (OpenSpec.ofChange fnSamplesValidSpec)) fnSamplesValidCard

/-- THE TIED CARD OF 'laws.FnReportsValid'. -/
def fnReportsValidCard : Claim7 := { stood := { row := fnReportsValidRow, standIns := [], harness := (true, "895768f6d7d82bc70c2d4f6b98533101f3a717cc8158e0732835c857b1d626d8"), looks := false }, kinds := [], alts := [], laidByText := true, laidKinds := [.data, .data, .data], laidTests := true, laidLooks := .later }
def FnReportsValidCardSaid : Prop := Claim7.holds Tryd.pinned (.plain (OpenSpec.ofChange fnReportsValidSpec)) fnReportsValidCard

/-- THE TIED CARD OF 'laws.FnWorstGap'. -/
def fnWorstGapCard : Claim7 := { stood := { row := fnWorstGapRow, standIns := [], harness := (true, "895768f6d7d82bc70c2d4f6b98533101f3a717cc8158e0732835c857b1d626d8"), looks := false }, kinds := [], alts := [], laidByText := true, laidKinds := [.data, .data, .data], laidTests := true, laidLooks := .later }
def FnWorstGapCardSaid : Prop := Claim7.holds Tryd.pinned (.plain (OpenSpec.ofChange fnWorstGapSpec)) fnWorstGapCard

/-- THE SECOND FORM's CARD OF 'laws.FnImageOf'. -/
def fnImageOfUptoCard : Claim7 := { stood := { row := fnImageOfUptoRow, standIns := [], harness := (true, "895768f6d7d82bc70c2d4f6b98533101f3a717cc8158e0732835c857b1d626d8"), looks := false }, kinds := [], alts := [], laidByText := true, laidKinds := [.data, .data, .data], laidTests := true, laidLooks := .later }
def FnImageOfUptoCardSaid : Prop := Claim7.holds Tryd.pinned (.plain (OpenSpec.upto fnImageOfSpec)) fnImageOfUptoCard

/-- THE SECOND FORM's CARD OF 'laws.FnReportsOf'. -/
def fnReportsOfUptoCard : Claim7 := { stood := { row := fnReportsOfUptoRow, standIns := [], harness := (true, "895768f6d7d82bc70c2d4f6b98533101f3a717cc8158e0732835c857b1d626d8"), looks := false }, kinds := [], alts := [], laidByText := true, laidKinds := [.data, .data, .data], laidTests := true, laidLooks := .later }
def FnReportsOfUptoCardSaid : Prop := Claim7.holds Tryd.pinned (.plain (OpenSpec.upto fnReportsOfSpec)) fnReportsOfUptoCard

/-- THE SECOND FORM's CARD OF 'laws.FnSamplesValid'. -/
def fnSamplesValidUptoCard : Claim7 := { stood := { row := fnSamplesValidUptoRow, standIns := [], harness := (true, "895768f6d7d82bc70c2d4f6b98533101f3a717cc8158e0732835c857b1d626d8"), looks := false }, kinds := [], alts := [], laidByText := true, laidKinds := [.data, .data, .data], laidTests := true, laidLooks := .later }
def FnSamplesValidUptoCardSaid : Prop := Claim7.holds Tryd.pinned (.plain (OpenSpec.upto fnSamplesValidSpec)) fnSamplesValidUptoCard

/-- THE SECOND FORM's CARD OF 'laws.FnReportsValid'. -/
def fnReportsValidUptoCard : Claim7 := { stood := { row := fnReportsValidUptoRow, standIns := [], harness := (true, "895768f6d7d82bc70c2d4f6b98533101f3a717cc8158e0732835c857b1d626d8"), looks := false }, kinds := [], alts := [], laidByText := true, laidKinds := [.data, .data, .data], laidTests := true, laidLooks := .later }
def FnReportsValidUptoCardSaid : Prop := Claim7.holds Tryd.pinned (.plain (OpenSpec.upto fnReportsValidSpec)) fnReportsValidUptoCard

/-- THE SECOND FORM's CARD OF 'laws.FnWorstGap'. -/
def fnWorstGapUptoCard : Claim7 := { stood := { row := fnWorstGapUptoRow, standIns := [], harness := (true, "895768f6d7d82bc70c2d4f6b98533101f3a717cc8158e0732835c857b1d626d8"), looks := false }, kinds := [], alts := [], laidByText := true, laidKinds := [.data, .data, .data], laidTests := true, laidLooks := .later }
def FnWorstGapUptoCardSaid : Prop := Claim7.holds Tryd.pinned (.plain (OpenSpec.upto fnWorstGapSpec)) fnWorstGapUptoCard
end Rows
end Go.Proofs.YtanogghchmjkgaaDoor
