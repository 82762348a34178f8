/-
  DERIVED. GIVEN WITH THE SEED: THE CARDS: each row of YtdlphgknplomkaaDoorRows.lean that lists a variable, with what it lists TIED to the program's text (the seventh form; the later family's looks); each row that meets fmt, with fmt's text TOLD by the authors' own Lean function (tested against real Go, not proved from fmt's source: count such statements apart). THE CARD IS WHAT COUNTS. Prove the row's statement (the work); the ties are given (YtdlphgknplomkaaDoorTie.lean); close each card by the builder's one call (the guide's Derived/Test/ToyasCard.lean, 'card_holds'). Laid BY PROGRAM, IN A SANDBOX (cutbox-door.mjs). By AI agents, Wed Nov 11 2026. No macro, syntax, notation, axiom, sorry.
-/
import Derived.Test.YtdlphgknplomkaaDoorRows
import GoSem.ClaimSeven
namespace Go.Proofs.YtdlphgknplomkaaDoor
namespace Rows

/-- THE TIED CARD OF 'laws.FnLogPut'. -/
def fnLogPutCard : Claim7 := { stood := { row := fnLogPutRow, standIns := [], harness := (true, "41cef792096d167ea021f801e72e7781f99099697daaeb639b06bb288d3328ec"), looks := false }, kinds := [], alts := [], laidByText := true, laidKinds := [.data, .data, .data], laidTests := true, laidLooks := .later }
def FnLogPutCardSaid : Prop := Claim7.holds Tryd.pinned (.plain (OpenSpec.ofChange fnLogPutSpec)) fnLogPutCard

/-- THE TIED CARD OF 'laws.FnLogGaps'. -/
def fnLogGapsCard : Claim7 := { stood := { row := fnLogGapsRow, standIns := [], harness := (true, "41cef792096d167ea021f801e72e7781f99099697daaeb639b06bb288d3328ec"), looks := false }, kinds := [], alts := [], laidByText := true, laidKinds := [.data, .data, .data], laidTests := true, laidLooks := .later }
def FnLogGapsCardSaid : Prop := Claim7.holds Tryd.pinned (.plain (OpenSpec.ofChange fnLogGapsSpec)) fnLogGapsCard

/-- THE TIED CARD OF 'laws.FnLogMerge'. -/
def fnLogMergeCard : Claim7 := { stood := { row := fnLogMergeRow, standIns := [], harness := (true, "41cef792096d167ea021f801e72e7781f99099697daaeb639b06bb288d3328ec"), looks := false }, kinds := [], alts := [], laidByText := true, laidKinds := [.data, .data, .data], laidTests := true, laidLooks := .later }
def FnLogMergeCardSaid : Prop := Claim7.holds Tryd.pinned (.plain (OpenSpec.ofChange fnLogMergeSpec)) fnLogMergeCard

/-- THE TIED CARD OF 'laws.FnEntryLess'. -/
def fnEntryLessCard : Claim7 := { stood := { row := fnEntryLessRow, standIns := [], harness := (true, "41cef792096d167ea021f801e72e7781f99099697daaeb639b06bb288d3328ec"), looks := false }, kinds := [], alts := [], laidByText := true, laidKinds := [.data, .data, .data], laidTests := true, laidLooks := .later }
def FnEntryLessCardSaid : Prop := Claim7.holds Tryd.pinned (.plain (OpenSpec.ofChange fnEntryLessSpec)) fnEntryLessCard

/-- THE TIED CARD OF 'laws.FnLogValid'. -/
def fnLogValidCard : Claim7 := { stood := { row := fnLogValidRow, standIns := [], harness := (true, "41cef792096d167ea021f801e72e7781f99099697daaeb639b06bb288d3328ec"), looks := false }, kinds := [], alts := [], laidByText := true, laidKinds := [.data, .data, .data], laidTests := true, laidLooks := .later }
def FnLogValidCardSaid : Prop := Claim7.holds Tryd.pinned (.plain (OpenSpec.ofChange fnLogValidSpec)) fnLogValidCard

/-- THE TIED CARD OF 'laws.FnLogBetween'. -/
def fnLogBetweenCard : Claim7 := { stood := { row := fnLogBetweenRow, standIns := [], harness := (true, "41cef792096d167ea021f801e72e7781f99099697daaeb639b06bb288d3328ec"), looks := false }, kinds := [], alts := [], laidByText := true, laidKinds := [.data, .data, .data], laidTests := true, laidLooks := .later }
def FnLogBetweenCardSaid : Prop := Claim7.holds Tryd.pinned (.plain (OpenSpec.ofChange fnLogBetweenSpec)) fnLogBetweenCard

/-- THE SECOND FORM's CARD OF 'laws.FnLogPut'. -/
def fnLogPutUptoCard : Claim7 := { stood := { row := fnLogPutUptoRow, standIns := [], harness := (true, "41cef792096d167ea021f801e72e7781f99099697daaeb639b06bb288d3328ec"), looks := false }, kinds := [], alts := [], laidByText := true, laidKinds := [.data, .data, .data], laidTests := true, laidLooks := .later }
def FnLogPutUptoCardSaid : Prop := Claim7.holds Tryd.pinned (.plain (OpenSpec.upto fnLogPutSpec)) fnLogPutUptoCard

/-- THE SECOND FORM's CARD OF 'laws.FnLogGaps'. -/
def fnLogGapsUptoCard : Claim7 := { stood := { row := fnLogGapsUptoRow, standIns := [], harness := (true, "41cef792096d167ea021f801e72e7781f99099697daaeb639b06bb288d3328ec"), looks := false }, kinds := [], alts := [], laidByText := true, laidKinds := [.data, .data, .data], laidTests := true, laidLooks := .later }
def FnLogGapsUptoCardSaid : Prop := Claim7.holds Tryd.pinned (.plain (OpenSpec.upto fnLogGapsSpec)) fnLogGapsUptoCard

/-- THE SECOND FORM's CARD OF 'laws.FnLogMerge'. -/
def fnLogMergeUptoCard : Claim7 := { stood := { row := fnLogMergeUptoRow, standIns := [], harness := (true, "41cef792096d167ea021f801e72e7781f99099697daaeb639b06bb288d3328ec"), looks := false }, kinds := [], alts := [], laidByText := true, laidKinds := [.data, .data, .data], laidTests := true, laidLooks := .later }
def FnLogMergeUptoCardSaid : Prop := Claim7.holds Tryd.pinned (.plain (OpenSpec.upto fnLogMergeSpec)) fnLogMergeUptoCard

/-- THE SECOND FORM's CARD OF 'laws.FnEntryLess'. -/
def fnEntryLessUptoCard : Claim7 := { stood := { row := fnEntryLessUptoRow, standIns := [], harness := (true, "41cef792096d167ea021f801e72e7781f99099697daaeb639b06bb288d3328ec"), looks := false }, kinds := [], alts := [], laidByText := true, laidKinds := [.data, .data, .data], laidTests := true, laidLooks := .later }
def FnEntryLessUptoCardSaid : Prop := Claim7.holds Tryd.pinned (.plain (OpenSpec.upto fnEntryLessSpec)) fnEntryLessUptoCard

/-- THE SECOND FORM's CARD OF 'laws.FnLogValid'. -/
def fnLogValidUptoCard : Claim7 := { stood := { row := fnLogValidUptoRow, standIns := [], harness := (true, "41cef792096d167ea021f801e72e7781f99099697daaeb639b06bb288d3328ec"), looks := false }, kinds := [], alts := [], laidByText := true, laidKinds := [.data, .data, .data], laidTests := true, laidLooks := .later }
def FnLogValidUptoCardSaid : Prop := Claim7.holds Tryd.pinned (.plain (OpenSpec.upto fnLogValidSpec)) fnLogValidUptoCard

/-- THE SECOND FORM's CARD OF 'laws.FnLogBetween'. -/
def fnLogBetweenUptoCard : Claim7 := { stood := { row := fnLogBetweenUptoRow, standIns := [], harness := (true, "41cef792096d167ea021f801e72e7781f99099697daaeb639b06bb288d3328ec"), looks := false }, kinds := [], alts := [], laidByText := true, laidKinds := [.data, .data, .data], laidTests := true, laidLooks := .later }
def FnLogBetweenUptoCardSaid : Prop := Claim7.holds Tryd.pinned (.plain (OpenSpec.upto fnLogBetweenSpec)) fnLogBetweenUptoCard
end Rows
end Go.Proofs.YtdlphgknplomkaaDoor
