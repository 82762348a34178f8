/-
  No cell of these rows narrows 'for every input' (looked for: loops, veiled, ifaces, maps, wideKeys, modest, calm, conditions, laid).
  DERIVED. THE GIVEN ROWS OF THIS SEAT. 4 by the template 'for every input the law returns true; each argument reads behind the call as it read before'; 0 by the template 'total and deterministic' (their statements: YtlhfkidgmdojjaaTotals.lean).
  GIVEN WITH THE SEED: the statements are not yours to turn. If you find one false, say at which input.
  Laid BY PROGRAM, IN A SANDBOX (cutbox-rows.mjs): the forced cells as the released guide's own fill.sh prints them over the translation 0fa1378715e4566b… (all of the seat's roots in one cut). By AI agents, Wed Nov 11 2026. No macro, syntax, notation, axiom, sorry.
-/
import Derived.Test.YtlhfkidgmdojjaaChecked
import GoSem.Claim
import GoSem.ClaimJoined
import GoSem.ClaimMapViews
import Derived.JoinedTies
import Derived.KernelRfl
namespace Go.Proofs.Ytlhfkidgmdojjaa
/- THE CELL 'sum', in the pinned program and in every row, IS THE sha256 OF THE DUMP (.gsa) THAT YtlhfkidgmdojjaaProg.lean LOADS. Nothing in Lean hashes anything: it is a label: what it is worth is what the hold of that sum in a sandbox is worth. -/
noncomputable def Try.pinned : Pinned := { name := "ytlhfkidgmdojjaa", sum := "0fa1378715e4566b1c93c38459a05cf9455894a22d44ce79620d3d0425e6af1b", checked := Try.checked }
namespace Rows
def none {H : Type} : Left H := { results := [], args := [] }

/-- 'laws.FnExactClearPrice': WHATEVER THE INPUT: true; the input reads as it did. -/
def fnExactClearPriceSpec : ChangeSpec := { name := "fnExactClearPrice", fn := fun _ => fun
  | [d1, d2] => { results := [.lit (.bool true)], args := [d1, d2] }
  | _ => none }
def fnExactClearPriceRow : OpenClaim := { program := "ytlhfkidgmdojjaa", sum := "0fa1378715e4566b1c93c38459a05cf9455894a22d44ce79620d3d0425e6af1b", func := "loop.example/powercontrol/laws.FnExactClearPrice", spec := "fnExactClearPrice", unfollowed := true, recurses := true, apart := false }
def FnExactClearPriceSaid : Prop := fnExactClearPriceRow.holds Try.pinned (OpenSpec.ofChange fnExactClearPriceSpec)

/-- ITS FALSE NEIGHBOUR: 'it returns false'. Refute it at one input. -/
def fnExactClearPriceWrong : ChangeSpec := { name := "fnExactClearPrice", fn := fun _ => fun
  | [d1, d2] => { results := [.lit (.bool false)], args := [d1, d2] }
  | _ => none }
def FnExactClearPriceWrongFalsely : Prop := fnExactClearPriceRow.holds Try.pinned (OpenSpec.ofChange fnExactClearPriceWrong)

/-- 'laws.FnExactTradeMany': WHATEVER THE INPUT: true; the input reads as it did. -/
def fnExactTradeManySpec : ChangeSpec := { name := "fnExactTradeMany", fn := fun _ => fun
  | [d1, d2] => { results := [.lit (.bool true)], args := [d1, d2] }
  | _ => none }
def fnExactTradeManyRow : OpenClaim := { program := "ytlhfkidgmdojjaa", sum := "0fa1378715e4566b1c93c38459a05cf9455894a22d44ce79620d3d0425e6af1b", func := "loop.example/powercontrol/laws.FnExactTradeMany", spec := "fnExactTradeMany", unfollowed := true, recurses := true, apart := false }
def FnExactTradeManySaid : Prop := fnExactTradeManyRow.holds Try.pinned (OpenSpec.ofChange fnExactTradeManySpec)

/-- ITS FALSE NEIGHBOUR: 'it returns false'. Refute it at one input. -/
def fnExactTradeManyWrong : ChangeSpec := { name := "fnExactTradeMany", fn := fun _ => fun
  | [d1, d2] => { results := [.lit (.bool false)], args := [d1, d2] }
  | _ => none }
def FnExactTradeManyWrongFalsely : Prop := fnExactTradeManyRow.holds Try.pinned (OpenSpec.ofChange fnExactTradeManyWrong)

/-- 'laws.FnExactGain': WHATEVER THE INPUT: true; the input reads as it did. -/
def fnExactGainSpec : ChangeSpec := { name := "fnExactGain", fn := fun _ => fun
  | [d1, d2] => { results := [.lit (.bool true)], args := [d1, d2] }
  | _ => none }
def fnExactGainRow : OpenClaim := { program := "ytlhfkidgmdojjaa", sum := "0fa1378715e4566b1c93c38459a05cf9455894a22d44ce79620d3d0425e6af1b", func := "loop.example/powercontrol/laws.FnExactGain", spec := "fnExactGain", unfollowed := true, recurses := true, apart := false }
def FnExactGainSaid : Prop := fnExactGainRow.holds Try.pinned (OpenSpec.ofChange fnExactGainSpec)

/-- ITS FALSE NEIGHBOUR: 'it returns false'. Refute it at one input. -/
def fnExactGainWrong : ChangeSpec := { name := "fnExactGain", fn := fun _ => fun
  | [d1, d2] => { results := [.lit (.bool false)], args := [d1, d2] }
  | _ => none }
def FnExactGainWrongFalsely : Prop := fnExactGainRow.holds Try.pinned (OpenSpec.ofChange fnExactGainWrong)

/-- 'laws.FnExactTrade': WHATEVER THE INPUT: true; the input reads as it did. -/
def fnExactTradeSpec : ChangeSpec := { name := "fnExactTrade", fn := fun _ => fun
  | [d1, d2] => { results := [.lit (.bool true)], args := [d1, d2] }
  | _ => none }
def fnExactTradeRow : OpenClaim := { program := "ytlhfkidgmdojjaa", sum := "0fa1378715e4566b1c93c38459a05cf9455894a22d44ce79620d3d0425e6af1b", func := "loop.example/powercontrol/laws.FnExactTrade", spec := "fnExactTrade", unfollowed := true, recurses := true, apart := false }
def FnExactTradeSaid : Prop := fnExactTradeRow.holds Try.pinned (OpenSpec.ofChange fnExactTradeSpec)

/-- ITS FALSE NEIGHBOUR: 'it returns false'. Refute it at one input. -/
def fnExactTradeWrong : ChangeSpec := { name := "fnExactTrade", fn := fun _ => fun
  | [d1, d2] => { results := [.lit (.bool false)], args := [d1, d2] }
  | _ => none }
def FnExactTradeWrongFalsely : Prop := fnExactTradeRow.holds Try.pinned (OpenSpec.ofChange fnExactTradeWrong)

/- THE SECOND FORM. 'bulk': how many values and letters a reading holds, each counted each time it is reached (what is shared counts as often as it is met; a slice's spare places count too). A statement '..UptoSaid' is the law's where the arguments, and the package variables that the reading takes, are together of bulk at most 1048576: NARROWER than '..Said'. Prove '..Said' where nothing that the law and all that it calls make is longer than what came in: it says more and counts as full. Else prove '..UptoSaid'. A law counts once. -/
mutual
def uptoBulk {H : Type} : DataW H → Nat
  | .lit (.string bytes) => bytes.length + 1
  | .lit _ => 1
  | .nil => 1
  | .ptr d => uptoBulk d + 1
  | .slice elems spare => uptoBulkAll elems + uptoBulkAll spare + 1
  | .agg parts => uptoBulkAll parts + 1
  | .iface _ d => uptoBulk d + 1
  | .map entries => uptoBulkEntries entries + 1
  | .held _ => 1
def uptoBulkAll {H : Type} : List (DataW H) → Nat
  | [] => 0
  | d :: r => uptoBulk d + uptoBulkAll r
def uptoBulkEntries {H : Type} : List (Lit × DataW H) → Nat
  | [] => 0
  | x :: r => uptoBulkEntry x + uptoBulkEntries r
def uptoBulkEntry {H : Type} : Lit × DataW H → Nat
  | (.string bytes, d) => bytes.length + uptoBulk d + 1
  | (_, d) => uptoBulk d + 1
 end
def uptoSmall : (H : Type) → List (DataW H) → Bool := fun _ ds => decide (uptoBulkAll ds ≤ 1048576)
def OpenSpec.upto (s : _root_.Go.ChangeSpec) : _root_.Go.OpenSpec := { _root_.Go.OpenSpec.ofChange s with cond := some uptoSmall }

/-- 'laws.FnExactClearPrice', WHERE WHAT IT READS IS OF BULK AT MOST 1048576: true; the input reads as it did. -/
def fnExactClearPriceUptoRow : OpenClaim := { program := "ytlhfkidgmdojjaa", sum := "0fa1378715e4566b1c93c38459a05cf9455894a22d44ce79620d3d0425e6af1b", func := "loop.example/powercontrol/laws.FnExactClearPrice", spec := "fnExactClearPrice", unfollowed := true, recurses := true, apart := false, narrowed := true }
def FnExactClearPriceUptoSaid : Prop := fnExactClearPriceUptoRow.holds Try.pinned (OpenSpec.upto fnExactClearPriceSpec)

/-- 'laws.FnExactTradeMany', WHERE WHAT IT READS IS OF BULK AT MOST 1048576: true; the input reads as it did. -/
def fnExactTradeManyUptoRow : OpenClaim := { program := "ytlhfkidgmdojjaa", sum := "0fa1378715e4566b1c93c38459a05cf9455894a22d44ce79620d3d0425e6af1b", func := "loop.example/powercontrol/laws.FnExactTradeMany", spec := "fnExactTradeMany", unfollowed := true, recurses := true, apart := false, narrowed := true }
def FnExactTradeManyUptoSaid : Prop := fnExactTradeManyUptoRow.holds Try.pinned (OpenSpec.upto fnExactTradeManySpec)

/-- 'laws.FnExactGain', WHERE WHAT IT READS IS OF BULK AT MOST 1048576: true; the input reads as it did. -/
def fnExactGainUptoRow : OpenClaim := { program := "ytlhfkidgmdojjaa", sum := "0fa1378715e4566b1c93c38459a05cf9455894a22d44ce79620d3d0425e6af1b", func := "loop.example/powercontrol/laws.FnExactGain", spec := "fnExactGain", unfollowed := true, recurses := true, apart := false, narrowed := true }
def FnExactGainUptoSaid : Prop := fnExactGainUptoRow.holds Try.pinned (OpenSpec.upto fnExactGainSpec)

/-- 'laws.FnExactTrade', WHERE WHAT IT READS IS OF BULK AT MOST 1048576: true; the input reads as it did. -/
def fnExactTradeUptoRow : OpenClaim := { program := "ytlhfkidgmdojjaa", sum := "0fa1378715e4566b1c93c38459a05cf9455894a22d44ce79620d3d0425e6af1b", func := "loop.example/powercontrol/laws.FnExactTrade", spec := "fnExactTrade", unfollowed := true, recurses := true, apart := false, narrowed := true }
def FnExactTradeUptoSaid : Prop := fnExactTradeUptoRow.holds Try.pinned (OpenSpec.upto fnExactTradeSpec)

end Rows
end Go.Proofs.Ytlhfkidgmdojjaa
