/-
  DERIVED. GIVEN WITH THE SEED: THE CARDS: each row of YtodkccjfhpeoaaaDoorRows.lean that lists a variable, with what it lists TIED to the program's text (the seventh form; the later family's looks); each row that meets fmt, with fmt's text TOLD by the authors' own Lean function (tested against real Go, not proved from fmt's source: count such statements apart). THE CARD IS WHAT COUNTS. Prove the row's statement (the work); the ties are given (YtodkccjfhpeoaaaDoorTie.lean); close each card by the builder's one call (the guide's Derived/Test/ToyasCard.lean, 'card_holds'). Laid BY PROGRAM, IN A SANDBOX (cutbox-door.mjs). By AI agents, Wed Nov 11 2026. No macro, syntax, notation, axiom, sorry.
-/
import Derived.Test.YtodkccjfhpeoaaaDoorRows
import GoSem.ClaimSeven
namespace Go.Proofs.YtodkccjfhpeoaaaDoor
namespace Rows

/-- THE TIED CARD OF 'laws.FnExactAlarmStep'. -/
def fnExactAlarmStepCard : Claim7 := { stood := { row := fnExactAlarmStepRow, standIns := [], harness := (true, "8080c80e743dc4a67d2c8db257a26f999c4c1c38d8613fc5ee4b508e5867f98f"), looks := false }, kinds := [], alts := [], laidByText := true, laidKinds := [.data], laidTests := true, laidLooks := .later }
def FnExactAlarmStepCardSaid : Prop := Claim7.holds Tryd.pinned (.plain (OpenSpec.ofChange fnExactAlarmStepSpec)) fnExactAlarmStepCard

/-- THE TIED CARD OF 'laws.FnExactAlarmRun'. -/
def fnExactAlarmRunCard : Claim7 := { stood := { row := fnExactAlarmRunRow, standIns := [], harness := (true, "8080c80e743dc4a67d2c8db257a26f999c4c1c38d8613fc5ee4b508e5867f98f"), looks := false }, kinds := [], alts := [], laidByText := true, laidKinds := [.data], laidTests := true, laidLooks := .later }
def FnExactAlarmRunCardSaid : Prop := Claim7.holds Tryd.pinned (.plain (OpenSpec.ofChange fnExactAlarmRunSpec)) fnExactAlarmRunCard

/-- THE TIED CARD OF 'laws.FnExactAlarmTell'. -/
def fnExactAlarmTellCard : Claim7 := { stood := { row := fnExactAlarmTellRow, standIns := [], harness := (true, "8080c80e743dc4a67d2c8db257a26f999c4c1c38d8613fc5ee4b508e5867f98f"), looks := false }, kinds := [], alts := [], laidByText := true, laidKinds := [.data], laidTests := true, laidLooks := .later }
def FnExactAlarmTellCardSaid : Prop := Claim7.holds Tryd.pinned (.plain (OpenSpec.ofChange fnExactAlarmTellSpec)) fnExactAlarmTellCard

/-- THE TIED CARD OF 'laws.FnAlarmStep'. -/
def fnAlarmStepCard : Claim7 := { stood := { row := fnAlarmStepRow, standIns := [], harness := (true, "8080c80e743dc4a67d2c8db257a26f999c4c1c38d8613fc5ee4b508e5867f98f"), looks := false }, kinds := [], alts := [], laidByText := true, laidKinds := [.data, .data, .data, .data], laidTests := true, laidLooks := .later }
def FnAlarmStepCardSaid : Prop := Claim7.holds Tryd.pinned (.plain (OpenSpec.ofChange fnAlarmStepSpec)) fnAlarmStepCard

/-- THE TIED CARD OF 'laws.FnAlarmsValid'. -/
def fnAlarmsValidCard : Claim7 := { stood := { row := fnAlarmsValidRow, standIns := [], harness := (true, "8080c80e743dc4a67d2c8db257a26f999c4c1c38d8613fc5ee4b508e5867f98f"), looks := false }, kinds := [], alts := [], laidByText := true, laidKinds := [.data, .data, .data], laidTests := true, laidLooks := .later }
def FnAlarmsValidCardSaid : Prop := Claim7.holds Tryd.pinned (.plain (OpenSpec.ofChange fnAlarmsValidSpec)) fnAlarmsValidCard

/-- THE SECOND FORM's CARD OF 'laws.FnExactAlarmStep'. -/
def fnExactAlarmStepUptoCard : Claim7 := { stood := { row := fnExactAlarmStepUptoRow, standIns := [], harness := (true, "8080c80e743dc4a67d2c8db257a26f999c4c1c38d8613fc5ee4b508e5867f98f"), looks := false }, kinds := [], alts := [], laidByText := true, laidKinds := [.data], laidTests := true, laidLooks := .later }
def FnExactAlarmStepUptoCardSaid : Prop := Claim7.holds Tryd.pinned (.plain (OpenSpec.upto fnExactAlarmStepSpec)) fnExactAlarmStepUptoCard

/-- THE SECOND FORM's CARD OF 'laws.FnExactAlarmRun'. -/
def fnExactAlarmRunUptoCard : Claim7 := { stood := { row := fnExactAlarmRunUptoRow, standIns := [], harness := (true, "8080c80e743dc4a67d2c8db257a26f999c4c1c38d8613fc5ee4b508e5867f98f"), looks := false }, kinds := [], alts := [], laidByText := true, laidKinds := [.data], laidTests := true, laidLooks := .later }
def FnExactAlarmRunUptoCardSaid : Prop := Claim7.holds Tryd.pinned (.plain (OpenSpec.upto fnExactAlarmRunSpec)) fnExactAlarmRunUptoCard

/-- THE SECOND FORM's CARD OF 'laws.FnExactAlarmTell'. -/
def fnExactAlarmTellUptoCard : Claim7 := { stood := { row := fnExactAlarmTellUptoRow, standIns := [], harness := (true, "8080c80e743dc4a67d2c8db257a26f999c4c1c38d8613fc5ee4b508e5867f98f"), looks := false }, kinds := [], alts := [], laidByText := true, laidKinds := [.data], laidTests := true, laidLooks := .later }
def FnExactAlarmTellUptoCardSaid : Prop := Claim7.holds Tryd.pinned (.plain (OpenSpec.upto fnExactAlarmTellSpec)) fnExactAlarmTellUptoCard

/-- THE SECOND FORM's CARD OF 'laws.FnAlarmStep'. -/
def fnAlarmStepUptoCard : Claim7 := { stood := { row := fnAlarmStepUptoRow, standIns := [], harness := (true, "8080c80e743dc4a67d2c8db257a26f999c4c1c38d8613fc5ee4b508e5867f98f"), looks := false }, kinds := [], alts := [], laidByText := true, laidKinds := [.data, .data, .data, .data], laidTests := true, laidLooks := .later }
def FnAlarmStepUptoCardSaid : Prop := Claim7.holds Tryd.pinned (.plain (OpenSpec.upto fnAlarmStepSpec)) fnAlarmStepUptoCard

/-- THE SECOND FORM's CARD OF 'laws.FnAlarmsValid'. -/
def fnAlarmsValidUptoCard : Claim7 := { stood := { row := fnAlarmsValidUptoRow, standIns := [], harness := (true, "8080c80e743dc4a67d2c8db257a26f999c4c1c38d8613fc5ee4b508e5867f98f"), looks := false }, kinds := [], alts := [], laidByText := true, laidKinds := [.data, .data, .data], laidTests := true, laidLooks := .later }
def FnAlarmsValidUptoCardSaid : Prop := Claim7.holds Tryd.pinned (.plain (OpenSpec.upto fnAlarmsValidSpec)) fnAlarmsValidUptoCard
end Rows
end Go.Proofs.YtodkccjfhpeoaaaDoor
