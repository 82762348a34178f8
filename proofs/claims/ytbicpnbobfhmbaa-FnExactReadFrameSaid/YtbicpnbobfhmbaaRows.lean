/-
  No cell of these rows narrows 'for every input' (looked for: loops, veiled, ifaces, maps, wideKeys, modest, calm, conditions, laid).
  DERIVED. THE GIVEN ROWS OF THIS SEAT. 4 by the template 'for every input the law returns true; each argument reads behind the call as it read before'; 0 by the template 'total and deterministic' (their statements: YtbicpnbobfhmbaaTotals.lean).
  GIVEN WITH THE SEED: the statements are not yours to turn. If you find one false, say at which input.
  Laid BY PROGRAM, IN A SANDBOX (cutbox-rows.mjs): the forced cells as the released guide's own fill.sh prints them over the translation 0884d0f57077d1d9… (all of the seat's roots in one cut). By AI agents, Wed Nov 11 2026. No macro, syntax, notation, axiom, sorry.
-/
import Derived.Test.YtbicpnbobfhmbaaChecked
import GoSem.Claim
import GoSem.ClaimJoined
import GoSem.ClaimMapViews
import Derived.JoinedTies
import Derived.KernelRfl
namespace Go.Proofs.Ytbicpnbobfhmbaa
/- THE CELL 'sum', in the pinned program and in every row, IS THE sha256 OF THE DUMP (.gsa) THAT YtbicpnbobfhmbaaProg.lean LOADS. Nothing in Lean hashes anything: it is a label: what it is worth is what the hold of that sum in a sandbox is worth. -/
noncomputable def Try.pinned : Pinned := { name := "ytbicpnbobfhmbaa", sum := "0884d0f57077d1d9b063ee8ad73cd51b80ac3147ba0e7a089eccf437f6ddd1f8", checked := Try.checked }
namespace Rows
def none {H : Type} : Left H := { results := [], args := [] }

/-- 'laws.FnExactFrameValid': WHATEVER THE INPUT: true; the input reads as it did. -/
def fnExactFrameValidSpec : ChangeSpec := { name := "fnExactFrameValid", fn := fun _ => fun
  | [d] => { results := [.lit (.bool true)], args := [d] }
  | _ => none }
def fnExactFrameValidRow : OpenClaim := { program := "ytbicpnbobfhmbaa", sum := "0884d0f57077d1d9b063ee8ad73cd51b80ac3147ba0e7a089eccf437f6ddd1f8", func := "loop.example/powercontrol/laws.FnExactFrameValid", spec := "fnExactFrameValid", apart := false }
def FnExactFrameValidSaid : Prop := fnExactFrameValidRow.holds Try.pinned (OpenSpec.ofChange fnExactFrameValidSpec)

/-- ITS FALSE NEIGHBOUR: 'it returns false'. Refute it at one input. -/
def fnExactFrameValidWrong : ChangeSpec := { name := "fnExactFrameValid", fn := fun _ => fun
  | [d] => { results := [.lit (.bool false)], args := [d] }
  | _ => none }
def FnExactFrameValidWrongFalsely : Prop := fnExactFrameValidRow.holds Try.pinned (OpenSpec.ofChange fnExactFrameValidWrong)

/-- 'laws.FnExactFrameBytes': WHATEVER THE INPUT: true; the input reads as it did. -/
def fnExactFrameBytesSpec : ChangeSpec := { name := "fnExactFrameBytes", fn := fun _ => fun
  | [d] => { results := [.lit (.bool true)], args := [d] }
  | _ => none }
def fnExactFrameBytesRow : OpenClaim := { program := "ytbicpnbobfhmbaa", sum := "0884d0f57077d1d9b063ee8ad73cd51b80ac3147ba0e7a089eccf437f6ddd1f8", func := "loop.example/powercontrol/laws.FnExactFrameBytes", spec := "fnExactFrameBytes", apart := false }
def FnExactFrameBytesSaid : Prop := fnExactFrameBytesRow.holds Try.pinned (OpenSpec.ofChange fnExactFrameBytesSpec)

/-- ITS FALSE NEIGHBOUR: 'it returns false'. Refute it at one input. -/
def fnExactFrameBytesWrong : ChangeSpec := { name := "fnExactFrameBytes", fn := fun _ => fun
  | [d] => { results := [.lit (.bool false)], args := [d] }
  | _ => none }
def FnExactFrameBytesWrongFalsely : Prop := fnExactFrameBytesRow.holds Try.pinned (OpenSpec.ofChange fnExactFrameBytesWrong)

/-- 'laws.FnExactReadFrame': WHATEVER THE INPUT: true; the input reads as it did. -/
def fnExactReadFrameSpec : ChangeSpec := { name := "fnExactReadFrame", fn := fun _ => fun
  | [d] => { results := [.lit (.bool true)], args := [d] }
  | _ => none }
def fnExactReadFrameRow : OpenClaim := { program := "ytbicpnbobfhmbaa", sum := "0884d0f57077d1d9b063ee8ad73cd51b80ac3147ba0e7a089eccf437f6ddd1f8", func := "loop.example/powercontrol/laws.FnExactReadFrame", spec := "fnExactReadFrame", apart := false }
def FnExactReadFrameSaid : Prop := fnExactReadFrameRow.holds Try.pinned (OpenSpec.ofChange fnExactReadFrameSpec)

/-- ITS FALSE NEIGHBOUR: 'it returns false'. Refute it at one input. -/
def fnExactReadFrameWrong : ChangeSpec := { name := "fnExactReadFrame", fn := fun _ => fun
  | [d] => { results := [.lit (.bool false)], args := [d] }
  | _ => none }
def FnExactReadFrameWrongFalsely : Prop := fnExactReadFrameRow.holds Try.pinned (OpenSpec.ofChange fnExactReadFrameWrong)

/-- 'laws.FnExactReadFrames': WHATEVER THE INPUT: true; the input reads as it did. -/
def fnExactReadFramesSpec : ChangeSpec := { name := "fnExactReadFrames", fn := fun _ => fun
  | [d] => { results := [.lit (.bool true)], args := [d] }
  | _ => none }
def fnExactReadFramesRow : OpenClaim := { program := "ytbicpnbobfhmbaa", sum := "0884d0f57077d1d9b063ee8ad73cd51b80ac3147ba0e7a089eccf437f6ddd1f8", func := "loop.example/powercontrol/laws.FnExactReadFrames", spec := "fnExactReadFrames", apart := false }
def FnExactReadFramesSaid : Prop := fnExactReadFramesRow.holds Try.pinned (OpenSpec.ofChange fnExactReadFramesSpec)

/-- ITS FALSE NEIGHBOUR: 'it returns false'. Refute it at one input. -/
def fnExactReadFramesWrong : ChangeSpec := { name := "fnExactReadFrames", fn := fun _ => fun
  | [d] => { results := [.lit (.bool false)], args := [d] }
  | _ => none }
def FnExactReadFramesWrongFalsely : Prop := fnExactReadFramesRow.holds Try.pinned (OpenSpec.ofChange fnExactReadFramesWrong)

/- THE SECOND FORM. 'bulk': how many values and letters a reading holds, each counted each time it is reached (what is shared counts as often as it is met; a slice's spare places count too). A statement '..UptoSaid' is the law's where the arguments, and the package variables that the reading takes, are together of bulk at most 1048576: NARROWER than '..Said'. Prove '..Said' where nothing that the law and all that it calls make is longer than what came in: it says more and counts as full. Else prove '..UptoSaid'. A law counts once. -/
mutual
def uptoBulk {H : Type} : DataW H → Nat
  | .lit (.string bytes) => bytes.length + 1
  | .lit _ => 1
  | .nil => 1
  | .ptr d => uptoBulk d + 1
  | .slice elems spare => uptoBulkAll elems + uptoBulkAll spare + 1
  | .agg parts => uptoBulkAll parts + 1
  | .iface _ d => uptoBulk d + 1
  | .map entries => uptoBulkEntries entries + 1
  | .held _ => 1
def uptoBulkAll {H : Type} : List (DataW H) → Nat
  | [] => 0
  | d :: r => uptoBulk d + uptoBulkAll r
def uptoBulkEntries {H : Type} : List (Lit × DataW H) → Nat
  | [] => 0
  | x :: r => uptoBulkEntry x + uptoBulkEntries r
def uptoBulkEntry {H : Type} : Lit × DataW H → Nat
  | (.string bytes, d) => bytes.length + uptoBulk d + 1
  | (_, d) => uptoBulk d + 1
 end
def uptoSmall : (H : Type) → List (DataW H) → Bool := fun _ ds => decide (uptoBulkAll ds ≤ 1048576)
def OpenSpec.upto (s : _root_.Go.ChangeSpec) : _root_.Go.OpenSpec := { _root_.Go.OpenSpec.ofChange s with cond := some uptoSmall }

/-- 'laws.FnExactFrameValid', WHERE WHAT IT READS IS OF BULK AT MOST 1048576: true; the input reads as it did. -/
def fnExactFrameValidUptoRow : OpenClaim := { program := "ytbicpnbobfhmbaa", sum := "0884d0f57077d1d9b063ee8ad73cd51b80ac3147ba0e7a089eccf437f6ddd1f8", func := "loop.example/powercontrol/laws.FnExactFrameValid", spec := "fnExactFrameValid", apart := false, narrowed := true }
def FnExactFrameValidUptoSaid : Prop := fnExactFrameValidUptoRow.holds Try.pinned (OpenSpec.upto fnExactFrameValidSpec)

/-- 'laws.FnExactFrameBytes', WHERE WHAT IT READS IS OF BULK AT MOST 1048576: true; the input reads as it did. -/
def fnExactFrameBytesUptoRow : OpenClaim := { program := "ytbicpnbobfhmbaa", sum := "0884d0f57077d1d9b063ee8ad73cd51b80ac3147ba0e7a089eccf437f6ddd1f8", func := "loop.example/powercontrol/laws.FnExactFrameBytes", spec := "fnExactFrameBytes", apart := false, narrowed := true }
def FnExactFrameBytesUptoSaid : Prop := fnExactFrameBytesUptoRow.holds Try.pinned (OpenSpec.upto fnExactFrameBytesSpec)

/-- 'laws.FnExactReadFrame', WHERE WHAT IT READS IS OF BULK AT MOST 1048576: true; the input reads as it did. -/
def fnExactReadFrameUptoRow : OpenClaim := { program := "ytbicpnbobfhmbaa", sum := "0884d0f57077d1d9b063ee8ad73cd51b80ac3147ba0e7a089eccf437f6ddd1f8", func := "loop.example/powercontrol/laws.FnExactReadFrame", spec := "fnExactReadFrame", apart := false, narrowed := true }
def FnExactReadFrameUptoSaid : Prop := fnExactReadFrameUptoRow.holds Try.pinned (OpenSpec.upto fnExactReadFrameSpec)

/-- 'laws.FnExactReadFrames', WHERE WHAT IT READS IS OF BULK AT MOST 1048576: true; the input reads as it did. -/
def fnExactReadFramesUptoRow : OpenClaim := { program := "ytbicpnbobfhmbaa", sum := "0884d0f57077d1d9b063ee8ad73cd51b80ac3147ba0e7a089eccf437f6ddd1f8", func := "loop.example/powercontrol/laws.FnExactReadFrames", spec := "fnExactReadFrames", apart := false, narrowed := true }
def FnExactReadFramesUptoSaid : Prop := fnExactReadFramesUptoRow.holds Try.pinned (OpenSpec.upto fnExactReadFramesSpec)

end Rows
end Go.Proofs.Ytbicpnbobfhmbaa
