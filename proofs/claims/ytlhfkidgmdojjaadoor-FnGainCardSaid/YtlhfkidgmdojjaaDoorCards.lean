/-
  DERIVED. GIVEN WITH THE SEED: THE CARDS: each row of YtlhfkidgmdojjaaDoorRows.lean that lists a variable, with what it lists TIED to the program's text (the seventh form; the later family's looks); each row that meets fmt, with fmt's text TOLD by the authors' own Lean function (tested against real Go, not proved from fmt's source: count such statements apart). THE CARD IS WHAT COUNTS. Prove the row's statement (the work); the ties are given (YtlhfkidgmdojjaaDoorTie.lean); close each card by the builder's one call (the guide's Derived/Test/ToyasCard.lean, 'card_holds'). Laid BY PROGRAM, IN A SANDBOX (cutbox-door.mjs). By AI agents, Wed Nov 11 2026. No macro, syntax, notation, axiom, sorry.
-/
import Derived.Test.YtlhfkidgmdojjaaDoorRows
import GoSem.ClaimSeven
namespace Go.Proofs.YtlhfkidgmdojjaaDoor
namespace Rows

/-- THE TIED CARD OF 'laws.FnTrade'. -/
def fnTradeCard : Claim7 := { stood := { row := fnTradeRow, standIns := [], harness := (true, "b8ac3946d97764d9a0852ba5d88de8d2413becc3ef6f8f4c387351f14231bd4c"), looks := false }, kinds := [], alts := [], laidByText := true, laidKinds := [.data, .data, .data], laidTests := true, laidLooks := .later }
def FnTradeCardSaid : Prop := Claim7.holds Tryd.pinned (.plain (OpenSpec.ofChange fnTradeSpec)) fnTradeCard

/-- THE TIED CARD OF 'laws.FnTradeMany'. -/
def fnTradeManyCard : Claim7 := { stood := { row := fnTradeManyRow, standIns := [], harness := (true, "b8ac3946d97764d9a0852ba5d88de8d2413becc3ef6f8f4c387351f14231bd4c"), looks := false }, kinds := [], alts := [], laidByText := true, laidKinds := [.data, .data, .data], laidTests := true, laidLooks := .later }
def FnTradeManyCardSaid : Prop := Claim7.holds Tryd.pinned (.plain (OpenSpec.ofChange fnTradeManySpec)) fnTradeManyCard

/-- THE TIED CARD OF 'laws.FnClearPrice'. -/
def fnClearPriceCard : Claim7 := { stood := { row := fnClearPriceRow, standIns := [], harness := (true, "b8ac3946d97764d9a0852ba5d88de8d2413becc3ef6f8f4c387351f14231bd4c"), looks := false }, kinds := [], alts := [], laidByText := true, laidKinds := [.data, .data, .data], laidTests := true, laidLooks := .later }
def FnClearPriceCardSaid : Prop := Claim7.holds Tryd.pinned (.plain (OpenSpec.ofChange fnClearPriceSpec)) fnClearPriceCard

/-- THE TIED CARD OF 'laws.FnGain'. -/
def fnGainCard : Claim7 := { stood := { row := fnGainRow, standIns := [], harness := (true, "b8ac3946d97764d9a0852ba5d88de8d2413becc3ef6f8f4c387351f14231bd4c"), looks := false }, kinds := [], alts := [], laidByText := true, laidKinds := [.data, .data, .data], laidTests := true, laidLooks := .later }
def FnGainCardSaid : Prop := Claim7.holds Tryd.pinned (.plain (OpenSpec.ofChange fnGainSpec)) fnGainCard

/-- THE SECOND FORM's CARD OF 'laws.FnTrade'. -/
def fnTradeUptoCard : Claim7 := { stood := { row := fnTradeUptoRow, standIns := [], harness := (true, "b8ac3946d97764d9a0852ba5d88de8d2413becc3ef6f8f4c387351f14231bd4c"), looks := false }, kinds := [], alts := [], laidByText := true, laidKinds := [.data, .data, .data], laidTests := true, laidLooks := .later }
def FnTradeUptoCardSaid : Prop := Claim7.holds Tryd.pinned (.plain (OpenSpec.upto fnTradeSpec)) fnTradeUptoCard

/-- THE SECOND FORM's CARD OF 'laws.FnTradeMany'. -/
def fnTradeManyUptoCard : Claim7 := { stood := { row := fnTradeManyUptoRow, standIns := [], harness := (true, "b8ac3946d97764d9a0852ba5d88de8d2413becc3ef6f8f4c387351f14231bd4c"), looks := false }, kinds := [], alts := [], laidByText := true, laidKinds := [.data, .data, .data], laidTests := true, laidLooks := .later }
def FnTradeManyUptoCardSaid : Prop := Claim7.holds Tryd.pinned (.plain (OpenSpec.upto fnTradeManySpec)) fnTradeManyUptoCard

/-- THE SECOND FORM's CARD OF 'laws.FnClearPrice'. -/
def fnClearPriceUptoCard : Claim7 := { stood := { row := fnClearPriceUptoRow, standIns := [], harness := (true, "b8ac3946d97764d9a0852ba5d88de8d2413becc3ef6f8f4c387351f14231bd4c"), looks := false }, kinds := [], alts := [], laidByText := true, laidKinds := [.data, .data, .data], laidTests := true, laidLooks := .later }
def FnClearPriceUptoCardSaid : Prop := Claim7.holds Tryd.pinned (.plain (OpenSpec.upto fnClearPriceSpec)) fnClearPriceUptoCard

/-- THE SECOND FORM's CARD OF 'laws.FnGain'. -/
def fnGainUptoCard : Claim7 := { stood := { row := fnGainUptoRow, standIns := [], harness := (true, "b8ac3946d97764d9a0852ba5d88de8d2413becc3ef6f8f4c387351f14231bd4c"), looks := false }, kinds := [], alts := [], laidByText := true, laidKinds := [.data, .data, .data], laidTests := true, laidLooks := .later }
def FnGainUptoCardSaid : Prop := Claim7.holds Tryd.pinned (.plain (OpenSpec.upto fnGainSpec)) fnGainUptoCard
end Rows
end Go.Proofs.YtlhfkidgmdojjaaDoor
