/-
  DERIVED. GIVEN WITH THE SEED: THE CARDS: each row of YthekihggedgofaaDoorRows.lean that lists a variable, with what it lists TIED to the program's text (the seventh form; the later family's looks); each row that meets fmt, with fmt's text TOLD by the authors' own Lean function (tested against real Go, not proved from fmt's source: count such statements apart). THE CARD IS WHAT COUNTS. Prove the row's statement (the work); the ties are given (YthekihggedgofaaDoorTie.lean); close each card by the builder's one call (the guide's Derived/Test/ToyasCard.lean, 'card_holds'). Laid BY PROGRAM, IN A SANDBOX (cutbox-door.mjs). By AI agents, Wed Nov 11 2026. No macro, syntax, notation, axiom, sorry.
-/
import Derived.Test.YthekihggedgofaaDoorRows
import GoSem.ClaimSeven
namespace Go.Proofs.YthekihggedgofaaDoor
namespace Rows

/-- THE TIED CARD OF 'laws.FnPollValid'. -/
def fnPollValidCard : Claim7 := { stood := { row := fnPollValidRow, standIns := [], harness := (true, "264ef47f15d939fbacd0146ea8e59039f1a4a88e99b8db233e73cc7d5b7817d8"), looks := false }, kinds := [], alts := [], laidByText := true, laidKinds := [.data, .data, .data], laidTests := true, laidLooks := .later }
def FnPollValidCardSaid : Prop := Claim7.holds Tryd.pinned (.plain (OpenSpec.ofChange fnPollValidSpec)) fnPollValidCard

/-- THE TIED CARD OF 'laws.FnPollAll'. -/
def fnPollAllCard : Claim7 := { stood := { row := fnPollAllRow, standIns := [], harness := (true, "264ef47f15d939fbacd0146ea8e59039f1a4a88e99b8db233e73cc7d5b7817d8"), looks := false }, kinds := [], alts := [], laidByText := true, laidKinds := [.data, .data, .data], laidTests := true, laidLooks := .later }
def FnPollAllCardSaid : Prop := Claim7.holds Tryd.pinned (.plain (OpenSpec.ofChange fnPollAllSpec)) fnPollAllCard

/-- THE SECOND FORM's CARD OF 'laws.FnPollValid'. -/
def fnPollValidUptoCard : Claim7 := { stood := { row := fnPollValidUptoRow, standIns := [], harness := (true, "264ef47f15d939fbacd0146ea8e59039f1a4a88e99b8db233e73cc7d5b7817d8"), looks := false }, kinds := [], alts := [], laidByText := true, laidKinds := [.data, .data, .data], laidTests := true, laidLooks := .later }
def FnPollValidUptoCardSaid : Prop := Claim7.holds Tryd.pinned (.plain (OpenSpec.upto fnPollValidSpec)) fnPollValidUptoCard

/-- THE SECOND FORM's CARD OF 'laws.FnPollAll'. -/
def fnPollAllUptoCard : Claim7 := { stood := { row := fnPollAllUptoRow, standIns := [], harness := (true, "264ef47f15d939fbacd0146ea8e59039f1a4a88e99b8db233e73cc7d5b7817d8"), looks := false }, kinds := [], alts := [], laidByText := true, laidKinds := [.data, .data, .data], laidTests := true, laidLooks := .later }
def FnPollAllUptoCardSaid : Prop := Claim7.holds Tryd.pinned (.plain (OpenSpec.upto fnPollAllSpec)) fnPollAllUptoCard
end Rows
end Go.Proofs.YthekihggedgofaaDoor
