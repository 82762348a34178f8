/-
  No cell of these rows narrows 'for every input' (looked for: loops, veiled, ifaces, maps, wideKeys, modest, calm, conditions, laid).
  DERIVED. THE GIVEN ROWS OF THIS SEAT. 3 by the template 'for every input the law returns true; each argument reads behind the call as it read before'; 0 by the template 'total and deterministic' (their statements: YtfdnkllpghnlgaaTotals.lean).
  GIVEN WITH THE SEED: the statements are not yours to turn. If you find one false, say at which input.
  Laid BY PROGRAM, IN A SANDBOX (cutbox-rows.mjs): the forced cells as the released guide's own fill.sh prints them over the translation 0dbdadb0e66b4b5f… (all of the seat's roots in one cut). By AI agents, Wed Nov 11 2026. No macro, syntax, notation, axiom, sorry.
-/
import Derived.Test.YtfdnkllpghnlgaaChecked
import GoSem.Claim
import GoSem.ClaimJoined
import GoSem.ClaimMapViews
import Derived.JoinedTies
import Derived.KernelRfl
namespace Go.Proofs.Ytfdnkllpghnlgaa
/- THE CELL 'sum', in the pinned program and in every row, IS THE sha256 OF THE DUMP (.gsa) THAT YtfdnkllpghnlgaaProg.lean LOADS. Nothing in Lean hashes anything: it is a label: what it is worth is what the hold of that sum in a sandbox is worth. -/
noncomputable def Try.pinned : Pinned := { name := "ytfdnkllpghnlgaa", sum := "0dbdadb0e66b4b5f852c0e99cf4df5df8c4370b987e15f45c3f97744afc45cd6", checked := Try.checked }
namespace Rows
def none {H : Type} : Left H := { results := [], args := [] }

/-- 'laws.FnExactPollNew': WHATEVER THE INPUT: true; the input reads as it did. -/
def fnExactPollNewSpec : ChangeSpec := { name := "fnExactPollNew", fn := fun _ => fun
  | [] => { results := [.lit (.bool true)], args := [] }
  | _ => none }
def fnExactPollNewRow : OpenClaim := { program := "ytfdnkllpghnlgaa", sum := "0dbdadb0e66b4b5f852c0e99cf4df5df8c4370b987e15f45c3f97744afc45cd6", func := "loop.example/powercontrol/laws.FnExactPollNew", spec := "fnExactPollNew", apart := false }
def FnExactPollNewSaid : Prop := fnExactPollNewRow.holds Try.pinned (OpenSpec.ofChange fnExactPollNewSpec)

/-- ITS FALSE NEIGHBOUR: 'it returns false'. Refute it at one input. -/
def fnExactPollNewWrong : ChangeSpec := { name := "fnExactPollNew", fn := fun _ => fun
  | [] => { results := [.lit (.bool false)], args := [] }
  | _ => none }
def FnExactPollNewWrongFalsely : Prop := fnExactPollNewRow.holds Try.pinned (OpenSpec.ofChange fnExactPollNewWrong)

/-- 'laws.FnExactPollValid': WHATEVER THE INPUT: true; the input reads as it did. -/
def fnExactPollValidSpec : ChangeSpec := { name := "fnExactPollValid", fn := fun _ => fun
  | [d] => { results := [.lit (.bool true)], args := [d] }
  | _ => none }
def fnExactPollValidRow : OpenClaim := { program := "ytfdnkllpghnlgaa", sum := "0dbdadb0e66b4b5f852c0e99cf4df5df8c4370b987e15f45c3f97744afc45cd6", func := "loop.example/powercontrol/laws.FnExactPollValid", spec := "fnExactPollValid", apart := false }
def FnExactPollValidSaid : Prop := fnExactPollValidRow.holds Try.pinned (OpenSpec.ofChange fnExactPollValidSpec)

/-- ITS FALSE NEIGHBOUR: 'it returns false'. Refute it at one input. -/
def fnExactPollValidWrong : ChangeSpec := { name := "fnExactPollValid", fn := fun _ => fun
  | [d] => { results := [.lit (.bool false)], args := [d] }
  | _ => none }
def FnExactPollValidWrongFalsely : Prop := fnExactPollValidRow.holds Try.pinned (OpenSpec.ofChange fnExactPollValidWrong)

/-- 'laws.FnExactPollAll': WHATEVER THE INPUT: true; the input reads as it did. -/
def fnExactPollAllSpec : ChangeSpec := { name := "fnExactPollAll", fn := fun _ => fun
  | [d] => { results := [.lit (.bool true)], args := [d] }
  | _ => none }
def fnExactPollAllRow : OpenClaim := { program := "ytfdnkllpghnlgaa", sum := "0dbdadb0e66b4b5f852c0e99cf4df5df8c4370b987e15f45c3f97744afc45cd6", func := "loop.example/powercontrol/laws.FnExactPollAll", spec := "fnExactPollAll", apart := false }
def FnExactPollAllSaid : Prop := fnExactPollAllRow.holds Try.pinned (OpenSpec.ofChange fnExactPollAllSpec)

/-- ITS FALSE NEIGHBOUR: 'it returns false'. Refute it at one input. -/
def fnExactPollAllWrong : ChangeSpec := { name := "fnExactPollAll", fn := fun _ => fun
  | [d] => { results := [.lit (.bool false)], args := [d] }
  | _ => none }
def FnExactPollAllWrongFalsely : Prop := fnExactPollAllRow.holds Try.pinned (OpenSpec.ofChange fnExactPollAllWrong)

/- THE SECOND FORM. 'bulk': how many values and letters a reading holds, each counted each time it is reached (what is shared counts as often as it is met; a slice's spare places count too). A statement '..UptoSaid' is the law's where the arguments, and the package variables that the reading takes, are together of bulk at most 1048576: NARROWER than '..Said'. Prove '..Said' where nothing that the law and all that it calls make is longer than what came in: it says more and counts as full. Else prove '..UptoSaid'. A law counts once. -/
mutual
def uptoBulk {H : Type} : DataW H → Nat
  | .lit (.string bytes) => bytes.length + 1
  | .lit _ => 1
  | .nil => 1
  | .ptr d => uptoBulk d + 1
  | .slice elems spare => uptoBulkAll elems + uptoBulkAll spare + 1
  | .agg parts => uptoBulkAll parts + 1
  | .iface _ d => uptoBulk d + 1
  | .map entries => uptoBulkEntries entries + 1
  | .held _ => 1
def uptoBulkAll {H : Type} : List (DataW H) → Nat
  | [] => 0
  | d :: r => uptoBulk d + uptoBulkAll r
def uptoBulkEntries {H : Type} : List (Lit × DataW H) → Nat
  | [] => 0
  | x :: r => uptoBulkEntry x + uptoBulkEntries r
def uptoBulkEntry {H : Type} : Lit × DataW H → Nat
  | (.string bytes, d) => bytes.length + uptoBulk d + 1
  | (_, d) => uptoBulk d + 1
 end
def uptoSmall : (H : Type) → List (DataW H) → Bool := fun _ ds => decide (uptoBulkAll ds ≤ 1048576)
def OpenSpec.upto (s : _root_.Go.ChangeSpec) : _root_.Go.OpenSpec := { _root_.Go.OpenSpec.ofChange s with cond := some uptoSmall }

/-- 'laws.FnExactPollNew', WHERE WHAT IT READS IS OF BULK AT MOST 1048576: true; the input reads as it did. -/
def fnExactPollNewUptoRow : OpenClaim := { program := "ytfdnkllpghnlgaa", sum := "0dbdadb0e66b4b5f852c0e99cf4df5df8c4370b987e15f45c3f97744afc45cd6", func := "loop.example/powercontrol/laws.FnExactPollNew", spec := "fnExactPollNew", apart := false, narrowed := true }
def FnExactPollNewUptoSaid : Prop := fnExactPollNewUptoRow.holds Try.pinned (OpenSpec.upto fnExactPollNewSpec)

/-- 'laws.FnExactPollValid', WHERE WHAT IT READS IS OF BULK AT MOST 1048576: true; the input reads as it did. -/
def fnExactPollValidUptoRow : OpenClaim := { program := "ytfdnkllpghnlgaa", sum := "0dbdadb0e66b4b5f852c0e99cf4df5df8c4370b987e15f45c3f97744afc45cd6", func := "loop.example/powercontrol/laws.FnExactPollValid", spec := "fnExactPollValid", apart := false, narrowed := true }
def FnExactPollValidUptoSaid : Prop := fnExactPollValidUptoRow.holds Try.pinned (OpenSpec.upto fnExactPollValidSpec)

/-- 'laws.FnExactPollAll', WHERE WHAT IT READS IS OF BULK AT MOST 1048576: true; the input reads as it did. -/
def fnExactPollAllUptoRow : OpenClaim := { program := "ytfdnkllpghnlgaa", sum := "0dbdadb0e66b4b5f852c0e99cf4df5df8c4370b987e15f45c3f97744afc45cd6", func := "loop.example/powercontrol/laws.FnExactPollAll", spec := "fnExactPollAll", apart := false, narrowed := true }
def FnExactPollAllUptoSaid : Prop := fnExactPollAllUptoRow.holds Try.pinned (OpenSpec.upto fnExactPollAllSpec)

end Rows
end Go.Proofs.Ytfdnkllpghnlgaa
