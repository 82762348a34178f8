/-
  No cell of these rows narrows 'for every input' (looked for: loops, veiled, ifaces, maps, wideKeys, modest, calm, conditions, laid).
  DERIVED. THE GIVEN ROWS OF THIS SEAT. 5 by the template 'for every input the law returns true; each argument reads behind the call as it read before'; 0 by the template 'total and deterministic' (their statements: YtanogghchmjkgaaTotals.lean).
  GIVEN WITH THE SEED: the statements are not yours to turn. If you find one false, say at which input.
  Laid BY PROGRAM, IN A SANDBOX (cutbox-rows.mjs): the forced cells as the released guide's own fill.sh prints them over the translation 9195e1f72c096029… (all of the seat's roots in one cut). By AI agents, Wed Nov 11 2026. No macro, syntax, notation, axiom, sorry.
-/
import Derived.Test.YtanogghchmjkgaaChecked
import GoSem.Claim
import GoSem.ClaimJoined
import GoSem.ClaimMapViews
import Derived.JoinedTies
import Derived.KernelRfl
namespace Go.Proofs.Ytanogghchmjkgaa
/- THE CELL 'sum', in the pinned program and in every row, IS THE sha256 OF THE DUMP (.gsa) THAT YtanogghchmjkgaaProg.lean LOADS. Nothing in Lean hashes anything: it is a label: what it is worth is what the hold of that sum in a sandbox is worth. -/
noncomputable def Try.pinned : Pinned := { name := "ytanogghchmjkgaa", sum := "9195e1f72c09602958cafc056c408995b4ace61ec47a2eec44fb0f9685a670ba", checked := Try.checked }
namespace Rows
def none {H : Type} : Left H := { results := [], args := [] }

/-- 'laws.FnExactSamplesValid': WHATEVER THE INPUT: true; the input reads as it did. -/
def fnExactSamplesValidSpec : ChangeSpec := { name := "fnExactSamplesValid", fn := fun _ => fun
  | [d] => { results := [.lit (.bool true)], args := [d] }
  | _ => none }
def fnExactSamplesValidRow : OpenClaim := { program := "ytanogghchmjkgaa", sum := "9195e1f72c09602958cafc056c408995b4ace61ec47a2eec44fb0f9685a670ba", func := "loop.example/powercontrol/laws.FnExactSamplesValid", spec := "fnExactSamplesValid", apart := false }
def FnExactSamplesValidSaid : Prop := fnExactSamplesValidRow.holds Try.pinned (OpenSpec.ofChange fnExactSamplesValidSpec)

/-- ITS FALSE NEIGHBOUR: 'it returns false'. Refute it at one input. -/
def fnExactSamplesValidWrong : ChangeSpec := { name := "fnExactSamplesValid", fn := fun _ => fun
  | [d] => { results := [.lit (.bool false)], args := [d] }
  | _ => none }
def FnExactSamplesValidWrongFalsely : Prop := fnExactSamplesValidRow.holds Try.pinned (OpenSpec.ofChange fnExactSamplesValidWrong)

/-- 'laws.FnExactReportsValid': WHATEVER THE INPUT: true; the input reads as it did. -/
def fnExactReportsValidSpec : ChangeSpec := { name := "fnExactReportsValid", fn := fun _ => fun
  | [d] => { results := [.lit (.bool true)], args := [d] }
  | _ => none }
def fnExactReportsValidRow : OpenClaim := { program := "ytanogghchmjkgaa", sum := "9195e1f72c09602958cafc056c408995b4ace61ec47a2eec44fb0f9685a670ba", func := "loop.example/powercontrol/laws.FnExactReportsValid", spec := "fnExactReportsValid", apart := false }
def FnExactReportsValidSaid : Prop := fnExactReportsValidRow.holds Try.pinned (OpenSpec.ofChange fnExactReportsValidSpec)

/-- ITS FALSE NEIGHBOUR: 'it returns false'. Refute it at one input. -/
def fnExactReportsValidWrong : ChangeSpec := { name := "fnExactReportsValid", fn := fun _ => fun
  | [d] => { results := [.lit (.bool false)], args := [d] }
  | _ => none }
def FnExactReportsValidWrongFalsely : Prop := fnExactReportsValidRow.holds Try.pinned (OpenSpec.ofChange fnExactReportsValidWrong)

/-- 'laws.FnExactReportsOf': WHATEVER THE INPUT: true; the input reads as it did. -/
def fnExactReportsOfSpec : ChangeSpec := { name := "fnExactReportsOf", fn := fun _ => fun
  | [d1, d2] => { results := [.lit (.bool true)], args := [d1, d2] }
  | _ => none }
def fnExactReportsOfRow : OpenClaim := { program := "ytanogghchmjkgaa", sum := "9195e1f72c09602958cafc056c408995b4ace61ec47a2eec44fb0f9685a670ba", func := "loop.example/powercontrol/laws.FnExactReportsOf", spec := "fnExactReportsOf", apart := false }
def FnExactReportsOfSaid : Prop := fnExactReportsOfRow.holds Try.pinned (OpenSpec.ofChange fnExactReportsOfSpec)

/-- ITS FALSE NEIGHBOUR: 'it returns false'. Refute it at one input. -/
def fnExactReportsOfWrong : ChangeSpec := { name := "fnExactReportsOf", fn := fun _ => fun
  | [d1, d2] => { results := [.lit (.bool false)], args := [d1, d2] }
  | _ => none }
def FnExactReportsOfWrongFalsely : Prop := fnExactReportsOfRow.holds Try.pinned (OpenSpec.ofChange fnExactReportsOfWrong)

/-- 'laws.FnExactImageOf': WHATEVER THE INPUT: true; the input reads as it did. -/
def fnExactImageOfSpec : ChangeSpec := { name := "fnExactImageOf", fn := fun _ => fun
  | [d1, d2] => { results := [.lit (.bool true)], args := [d1, d2] }
  | _ => none }
def fnExactImageOfRow : OpenClaim := { program := "ytanogghchmjkgaa", sum := "9195e1f72c09602958cafc056c408995b4ace61ec47a2eec44fb0f9685a670ba", func := "loop.example/powercontrol/laws.FnExactImageOf", spec := "fnExactImageOf", apart := false }
def FnExactImageOfSaid : Prop := fnExactImageOfRow.holds Try.pinned (OpenSpec.ofChange fnExactImageOfSpec)

/-- ITS FALSE NEIGHBOUR: 'it returns false'. Refute it at one input. -/
def fnExactImageOfWrong : ChangeSpec := { name := "fnExactImageOf", fn := fun _ => fun
  | [d1, d2] => { results := [.lit (.bool false)], args := [d1, d2] }
  | _ => none }
def FnExactImageOfWrongFalsely : Prop := fnExactImageOfRow.holds Try.pinned (OpenSpec.ofChange fnExactImageOfWrong)

/-- 'laws.FnExactWorstGap': WHATEVER THE INPUT: true; the input reads as it did. -/
def fnExactWorstGapSpec : ChangeSpec := { name := "fnExactWorstGap", fn := fun _ => fun
  | [d1, d2] => { results := [.lit (.bool true)], args := [d1, d2] }
  | _ => none }
def fnExactWorstGapRow : OpenClaim := { program := "ytanogghchmjkgaa", sum := "9195e1f72c09602958cafc056c408995b4ace61ec47a2eec44fb0f9685a670ba", func := "loop.example/powercontrol/laws.FnExactWorstGap", spec := "fnExactWorstGap", apart := false }
def FnExactWorstGapSaid : Prop := fnExactWorstGapRow.holds Try.pinned (OpenSpec.ofChange fnExactWorstGapSpec)

/-- ITS FALSE NEIGHBOUR: 'it returns false'. Refute it at one input. -/
def fnExactWorstGapWrong : ChangeSpec := { name := "fnExactWorstGap", fn := fun _ => fun
  | [d1, d2] => { results := [.lit (.bool false)], args := [d1, d2] }
  | _ => none }
def FnExactWorstGapWrongFalsely : Prop := fnExactWorstGapRow.holds Try.pinned (OpenSpec.ofChange fnExactWorstGapWrong)

/- THE SECOND FORM. 'bulk': how many values and letters a reading holds, each counted each time it is reached (what is shared counts as often as it is met; a slice's spare places count too). A statement '..UptoSaid' is the law's where the arguments, and the package variables that the reading takes, are together of bulk at most 1048576: NARROWER than '..Said'. Prove '..Said' where nothing that the law and all that it calls make is longer than what came in: it says more and counts as full. Else prove '..UptoSaid'. A law counts once. -/
mutual
def uptoBulk {H : Type} : DataW H → Nat
  | .lit (.string bytes) => bytes.length + 1
  | .lit _ => 1
  | .nil => 1
  | .ptr d => uptoBulk d + 1
  | .slice elems spare => uptoBulkAll elems + uptoBulkAll spare + 1
  | .agg parts => uptoBulkAll parts + 1
  | .iface _ d => uptoBulk d + 1
  | .map entries => uptoBulkEntries entries + 1
  | .held _ => 1
def uptoBulkAll {H : Type} : List (DataW H) → Nat
  | [] => 0
  | d :: r => uptoBulk d + uptoBulkAll r
def uptoBulkEntries {H : Type} : List (Lit × DataW H) → Nat
  | [] => 0
  | x :: r => uptoBulkEntry x + uptoBulkEntries r
def uptoBulkEntry {H : Type} : Lit × DataW H → Nat
  | (.string bytes, d) => bytes.length + uptoBulk d + 1
  | (_, d) => uptoBulk d + 1
 end
def uptoSmall : (H : Type) → List (DataW H) → Bool := fun _ ds => decide (uptoBulkAll ds ≤ 1048576)
def OpenSpec.upto (s : _root_.Go.ChangeSpec) : _root_.Go.OpenSpec := { _root_.Go.OpenSpec.ofChange s with cond := some uptoSmall }

/-- 'laws.FnExactSamplesValid', WHERE WHAT IT READS IS OF BULK AT MOST 1048576: true; the input reads as it did. -/
def fnExactSamplesValidUptoRow : OpenClaim := { program := "ytanogghchmjkgaa", sum := "9195e1f72c09602958cafc056c408995b4ace61ec47a2eec44fb0f9685a670ba", func := "loop.example/powercontrol/laws.FnExactSamplesValid", spec := "fnExactSamplesValid", apart := false, narrowed := true }
def FnExactSamplesValidUptoSaid : Prop := fnExactSamplesValidUptoRow.holds Try.pinned (OpenSpec.upto fnExactSamplesValidSpec)

/-- 'laws.FnExactReportsValid', WHERE WHAT IT READS IS OF BULK AT MOST 1048576: true; the input reads as it did. -/
def fnExactReportsValidUptoRow : OpenClaim := { program := "ytanogghchmjkgaa", sum := "9195e1f72c09602958cafc056c408995b4ace61ec47a2eec44fb0f9685a670ba", func := "loop.example/powercontrol/laws.FnExactReportsValid", spec := "fnExactReportsValid", apart := false, narrowed := true }
def FnExactReportsValidUptoSaid : Prop := fnExactReportsValidUptoRow.holds Try.pinned (OpenSpec.upto fnExactReportsValidSpec)

/-- 'laws.FnExactReportsOf', WHERE WHAT IT READS IS OF BULK AT MOST 1048576: true; the input reads as it did. -/
def fnExactReportsOfUptoRow : OpenClaim := { program := "ytanogghchmjkgaa", sum := "9195e1f72c09602958cafc056c408995b4ace61ec47a2eec44fb0f9685a670ba", func := "loop.example/powercontrol/laws.FnExactReportsOf", spec := "fnExactReportsOf", apart := false, narrowed := true }
def FnExactReportsOfUptoSaid : Prop := fnExactReportsOfUptoRow.holds Try.pinned (OpenSpec.upto fnExactReportsOfSpec)

/-- 'laws.FnExactImageOf', WHERE WHAT IT READS IS OF BULK AT MOST 1048576: true; the input reads as it did. -/
def fnExactImageOfUptoRow : OpenClaim := { program := "ytanogghchmjkgaa", sum := "9195e1f72c09602958cafc056c408995b4ace61ec47a2eec44fb0f9685a670ba", func := "loop.example/powercontrol/laws.FnExactImageOf", spec := "fnExactImageOf", apart := false, narrowed := true }
def FnExactImageOfUptoSaid : Prop := fnExactImageOfUptoRow.holds Try.pinned (OpenSpec.upto fnExactImageOfSpec)

/-- 'laws.FnExactWorstGap', WHERE WHAT IT READS IS OF BULK AT MOST 1048576: true; the input reads as it did. -/
def fnExactWorstGapUptoRow : OpenClaim := { program := "ytanogghchmjkgaa", sum := "9195e1f72c09602958cafc056c408995b4ace61ec47a2eec44fb0f9685a670ba", func := "loop.example/powercontrol/laws.FnExactWorstGap", spec := "fnExactWorstGap", apart := false, narrowed := true }
def FnExactWorstGapUptoSaid : Prop := fnExactWorstGapUptoRow.holds Try.pinned (OpenSpec.upto fnExactWorstGapSpec)

end Rows
end Go.Proofs.Ytanogghchmjkgaa
