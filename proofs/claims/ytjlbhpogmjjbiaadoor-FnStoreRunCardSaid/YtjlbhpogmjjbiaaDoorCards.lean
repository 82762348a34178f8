/-
  DERIVED. GIVEN WITH THE SEED: THE CARDS: each row of YtjlbhpogmjjbiaaDoorRows.lean that lists a variable, with what it lists TIED to the program's text (the seventh form; the later family's looks); each row that meets fmt, with fmt's text TOLD by the authors' own Lean function (tested against real Go, not proved from fmt's source: count such statements apart). THE CARD IS WHAT COUNTS. Prove the row's statement (the work); the ties are given (YtjlbhpogmjjbiaaDoorTie.lean); close each card by the builder's one call (the guide's Derived/Test/ToyasCard.lean, 'card_holds'). Laid BY PROGRAM, IN A SANDBOX (cutbox-door.mjs). By AI agents, Wed Nov 11 2026. No macro, syntax, notation, axiom, sorry.
-/
import Derived.Test.YtjlbhpogmjjbiaaDoorRows
import GoSem.ClaimSeven
namespace Go.Proofs.YtjlbhpogmjjbiaaDoor
namespace Rows

/-- THE TIED CARD OF 'laws.FnBatteryValid'. -/
def fnBatteryValidCard : Claim7 := { stood := { row := fnBatteryValidRow, standIns := [], harness := (true, "a6f4f9e56d39fe7ec90d5df152271413a3dd78a331d49d33463424045c4a4262"), looks := false }, kinds := [], alts := [], laidByText := true, laidKinds := [.data, .data, .data], laidTests := true, laidLooks := .later }
def FnBatteryValidCardSaid : Prop := Claim7.holds Tryd.pinned (.plain (OpenSpec.ofChange fnBatteryValidSpec)) fnBatteryValidCard

/-- THE TIED CARD OF 'laws.FnStoreRun'. -/
def fnStoreRunCard : Claim7 := { stood := { row := fnStoreRunRow, standIns := [], harness := (true, "a6f4f9e56d39fe7ec90d5df152271413a3dd78a331d49d33463424045c4a4262"), looks := false }, kinds := [], alts := [], laidByText := true, laidKinds := [.data, .data, .data], laidTests := true, laidLooks := .later }
def FnStoreRunCardSaid : Prop := Claim7.holds Tryd.pinned (.plain (OpenSpec.ofChange fnStoreRunSpec)) fnStoreRunCard

/-- THE TIED CARD OF 'laws.FnPeakOf'. -/
def fnPeakOfCard : Claim7 := { stood := { row := fnPeakOfRow, standIns := [], harness := (true, "a6f4f9e56d39fe7ec90d5df152271413a3dd78a331d49d33463424045c4a4262"), looks := false }, kinds := [], alts := [], laidByText := true, laidKinds := [.data, .data, .data], laidTests := true, laidLooks := .later }
def FnPeakOfCardSaid : Prop := Claim7.holds Tryd.pinned (.plain (OpenSpec.ofChange fnPeakOfSpec)) fnPeakOfCard

/-- THE TIED CARD OF 'laws.FnPeakPlan'. -/
def fnPeakPlanCard : Claim7 := { stood := { row := fnPeakPlanRow, standIns := [], harness := (true, "a6f4f9e56d39fe7ec90d5df152271413a3dd78a331d49d33463424045c4a4262"), looks := false }, kinds := [], alts := [], laidByText := true, laidKinds := [.data, .data, .data], laidTests := true, laidLooks := .later }
def FnPeakPlanCardSaid : Prop := Claim7.holds Tryd.pinned (.plain (OpenSpec.ofChange fnPeakPlanSpec)) fnPeakPlanCard

/-- THE TIED CARD OF 'laws.FnLeastPeak'. -/
def fnLeastPeakCard : Claim7 := { stood := { row := fnLeastPeakRow, standIns := [], harness := (true, "a6f4f9e56d39fe7ec90d5df152271413a3dd78a331d49d33463424045c4a4262"), looks := false }, kinds := [], alts := [], laidByText := true, laidKinds := [.data, .data, .data], laidTests := true, laidLooks := .later }
def FnLeastPeakCardSaid : Prop := Claim7.holds Tryd.pinned (.plain (OpenSpec.ofChange fnLeastPeakSpec)) fnLeastPeakCard

/-- THE SECOND FORM's CARD OF 'laws.FnBatteryValid'. -/
def fnBatteryValidUptoCard : Claim7 := { stood := { row := fnBatteryValidUptoRow, standIns := [], harness := (true, "a6f4f9e56d39fe7ec90d5df152271413a3dd78a331d49d33463424045c4a4262"), looks := false }, kinds := [], alts := [], laidByText := true, laidKinds := [.data, .data, .data], laidTests := true, laidLooks := .later }
def FnBatteryValidUptoCardSaid : Prop := Claim7.holds Tryd.pinned (.plain (OpenSpec.upto fnBatteryValidSpec)) fnBatteryValidUptoCard

/-- THE SECOND FORM's CARD OF 'laws.FnStoreRun'. -/
def fnStoreRunUptoCard : Claim7 := { stood := { row := fnStoreRunUptoRow, standIns := [], harness := (true, "a6f4f9e56d39fe7ec90d5df152271413a3dd78a331d49d33463424045c4a4262"), looks := false }, kinds := [], alts := [], laidByText := true, laidKinds := [.data, .data, .data], laidTests := true, laidLooks := .later }
def FnStoreRunUptoCardSaid : Prop := Claim7.holds Tryd.pinned (.plain (OpenSpec.upto fnStoreRunSpec)) fnStoreRunUptoCard

/-- THE SECOND FORM's CARD OF 'laws.FnPeakOf'. -/
def fnPeakOfUptoCard : Claim7 := { stood := { row := fnPeakOfUptoRow, standIns := [], harness := (true, "a6f4f9e56d39fe7ec90d5df152271413a3dd78a331d49d33463424045c4a4262"), looks := false }, kinds := [], alts := [], laidByText := true, laidKinds := [.data, .data, .data], laidTests := true, laidLooks := .later }
def FnPeakOfUptoCardSaid : Prop := Claim7.holds Tryd.pinned (.plain (OpenSpec.upto fnPeakOfSpec)) fnPeakOfUptoCard

/-- THE SECOND FORM's CARD OF 'laws.FnPeakPlan'. -/
def fnPeakPlanUptoCard : Claim7 := { stood := { row := fnPeakPlanUptoRow, standIns := [], harness := (true, "a6f4f9e56d39fe7ec90d5df152271413a3dd78a331d49d33463424045c4a4262"), looks := false }, kinds := [], alts := [], laidByText := true, laidKinds := [.data, .data, .data], laidTests := true, laidLooks := .later }
def FnPeakPlanUptoCardSaid : Prop := Claim7.holds Tryd.pinned (.plain (OpenSpec.upto fnPeakPlanSpec)) fnPeakPlanUptoCard

/-- THE SECOND FORM's CARD OF 'laws.FnLeastPeak'. -/
def fnLeastPeakUptoCard : Claim7 := { stood := { row := fnLeastPeakUptoRow, standIns := [], harness := (true, "a6f4f9e56d39fe7ec90d5df152271413a3dd78a331d49d33463424045c4a4262"), looks := false }, kinds := [], alts := [], laidByText := true, laidKinds := [.data, .data, .data], laidTests := true, laidLooks := .later }
def FnLeastPeakUptoCardSaid : Prop := Claim7.holds Tryd.pinned (.plain (OpenSpec.upto fnLeastPeakSpec)) fnLeastPeakUptoCard
end Rows
end Go.Proofs.YtjlbhpogmjjbiaaDoor
