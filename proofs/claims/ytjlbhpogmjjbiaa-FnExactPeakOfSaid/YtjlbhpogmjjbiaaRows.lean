/-
  No cell of these rows narrows 'for every input' (looked for: loops, veiled, ifaces, maps, wideKeys, modest, calm, conditions, laid).
  DERIVED. THE GIVEN ROWS OF THIS SEAT. 3 by the template 'for every input the law returns true; each argument reads behind the call as it read before'; 0 by the template 'total and deterministic' (their statements: YtjlbhpogmjjbiaaTotals.lean).
  GIVEN WITH THE SEED: the statements are not yours to turn. If you find one false, say at which input.
  Laid BY PROGRAM, IN A SANDBOX (cutbox-rows.mjs): the forced cells as the released guide's own fill.sh prints them over the translation 82bb7fcade84b8a2… (all of the seat's roots in one cut). By AI agents, Wed Nov 11 2026. No macro, syntax, notation, axiom, sorry.
-/
import Derived.Test.YtjlbhpogmjjbiaaChecked
import GoSem.Claim
import GoSem.ClaimJoined
import GoSem.ClaimMapViews
import Derived.JoinedTies
import Derived.KernelRfl
namespace Go.Proofs.Ytjlbhpogmjjbiaa
/- THE CELL 'sum', in the pinned program and in every row, IS THE sha256 OF THE DUMP (.gsa) THAT YtjlbhpogmjjbiaaProg.lean LOADS. Nothing in Lean hashes anything: it is a label: what it is worth is what the hold of that sum in a sandbox is worth. -/
noncomputable def Try.pinned : Pinned := { name := "ytjlbhpogmjjbiaa", sum := "82bb7fcade84b8a25d776ca69005b46ad97f838e9947f5d05408c58774d30263", checked := Try.checked }
namespace Rows
def none {H : Type} : Left H := { results := [], args := [] }

/-- 'laws.FnExactPeakOf': WHATEVER THE INPUT: true; the input reads as it did. -/
def fnExactPeakOfSpec : ChangeSpec := { name := "fnExactPeakOf", fn := fun _ => fun
  | [d1, d2, d3] => { results := [.lit (.bool true)], args := [d1, d2, d3] }
  | _ => none }
def fnExactPeakOfRow : OpenClaim := { program := "ytjlbhpogmjjbiaa", sum := "82bb7fcade84b8a25d776ca69005b46ad97f838e9947f5d05408c58774d30263", func := "loop.example/powercontrol/laws.FnExactPeakOf", spec := "fnExactPeakOf", apart := false }
def FnExactPeakOfSaid : Prop := fnExactPeakOfRow.holds Try.pinned (OpenSpec.ofChange fnExactPeakOfSpec)

/-- ITS FALSE NEIGHBOUR: 'it returns false'. Refute it at one input. -/
def fnExactPeakOfWrong : ChangeSpec := { name := "fnExactPeakOf", fn := fun _ => fun
  | [d1, d2, d3] => { results := [.lit (.bool false)], args := [d1, d2, d3] }
  | _ => none }
def FnExactPeakOfWrongFalsely : Prop := fnExactPeakOfRow.holds Try.pinned (OpenSpec.ofChange fnExactPeakOfWrong)

/-- 'laws.FnExactPeakPlan': WHATEVER THE INPUT: true; the input reads as it did. -/
def fnExactPeakPlanSpec : ChangeSpec := { name := "fnExactPeakPlan", fn := fun _ => fun
  | [d1, d2, d3] => { results := [.lit (.bool true)], args := [d1, d2, d3] }
  | _ => none }
def fnExactPeakPlanRow : OpenClaim := { program := "ytjlbhpogmjjbiaa", sum := "82bb7fcade84b8a25d776ca69005b46ad97f838e9947f5d05408c58774d30263", func := "loop.example/powercontrol/laws.FnExactPeakPlan", spec := "fnExactPeakPlan", apart := false }
def FnExactPeakPlanSaid : Prop := fnExactPeakPlanRow.holds Try.pinned (OpenSpec.ofChange fnExactPeakPlanSpec)

/-- ITS FALSE NEIGHBOUR: 'it returns false'. Refute it at one input. -/
def fnExactPeakPlanWrong : ChangeSpec := { name := "fnExactPeakPlan", fn := fun _ => fun
  | [d1, d2, d3] => { results := [.lit (.bool false)], args := [d1, d2, d3] }
  | _ => none }
def FnExactPeakPlanWrongFalsely : Prop := fnExactPeakPlanRow.holds Try.pinned (OpenSpec.ofChange fnExactPeakPlanWrong)

/-- 'laws.FnExactLeastPeak': WHATEVER THE INPUT: true; the input reads as it did. -/
def fnExactLeastPeakSpec : ChangeSpec := { name := "fnExactLeastPeak", fn := fun _ => fun
  | [d1, d2] => { results := [.lit (.bool true)], args := [d1, d2] }
  | _ => none }
def fnExactLeastPeakRow : OpenClaim := { program := "ytjlbhpogmjjbiaa", sum := "82bb7fcade84b8a25d776ca69005b46ad97f838e9947f5d05408c58774d30263", func := "loop.example/powercontrol/laws.FnExactLeastPeak", spec := "fnExactLeastPeak", apart := false }
def FnExactLeastPeakSaid : Prop := fnExactLeastPeakRow.holds Try.pinned (OpenSpec.ofChange fnExactLeastPeakSpec)

/-- ITS FALSE NEIGHBOUR: 'it returns false'. Refute it at one input. -/
def fnExactLeastPeakWrong : ChangeSpec := { name := "fnExactLeastPeak", fn := fun _ => fun
  | [d1, d2] => { results := [.lit (.bool false)], args := [d1, d2] }
  | _ => none }
def FnExactLeastPeakWrongFalsely : Prop := fnExactLeastPeakRow.holds Try.pinned (OpenSpec.ofChange fnExactLeastPeakWrong)

/- THE SECOND FORM. 'bulk': how many values and letters a reading holds, each counted each time it is reached (what is shared counts as often as it is met; a slice's spare places count too). A statement '..UptoSaid' is the law's where the arguments, and the package variables that the reading takes, are together of bulk at most 1048576: NARROWER than '..Said'. Prove '..Said' where nothing that the law and all that it calls make is longer than what came in: it says more and counts as full. Else prove '..UptoSaid'. A law counts once. -/
mutual
def uptoBulk {H : Type} : DataW H → Nat
  | .lit (.string bytes) => bytes.length + 1
  | .lit _ => 1
  | .nil => 1
  | .ptr d => uptoBulk d + 1
  | .slice elems spare => uptoBulkAll elems + uptoBulkAll spare + 1
  | .agg parts => uptoBulkAll parts + 1
  | .iface _ d => uptoBulk d + 1
  | .map entries => uptoBulkEntries entries + 1
  | .held _ => 1
def uptoBulkAll {H : Type} : List (DataW H) → Nat
  | [] => 0
  | d :: r => uptoBulk d + uptoBulkAll r
def uptoBulkEntries {H : Type} : List (Lit × DataW H) → Nat
  | [] => 0
  | x :: r => uptoBulkEntry x + uptoBulkEntries r
def uptoBulkEntry {H : Type} : Lit × DataW H → Nat
  | (.string bytes, d) => bytes.length + uptoBulk d + 1
  | (_, d) => uptoBulk d + 1
 end
def uptoSmall : (H : Type) → List (DataW H) → Bool := fun _ ds => decide (uptoBulkAll ds ≤ 1048576)
def OpenSpec.upto (s : _root_.Go.ChangeSpec) : _root_.Go.OpenSpec := { _root_.Go.OpenSpec.ofChange s with cond := some uptoSmall }

/-- 'laws.FnExactPeakOf', WHERE WHAT IT READS IS OF BULK AT MOST 1048576: true; the input reads as it did. -/
def fnExactPeakOfUptoRow : OpenClaim := { program := "ytjlbhpogmjjbiaa", sum := "82bb7fcade84b8a25d776ca69005b46ad97f838e9947f5d05408c58774d30263", func := "loop.example/powercontrol/laws.FnExactPeakOf", spec := "fnExactPeakOf", apart := false, narrowed := true }
def FnExactPeakOfUptoSaid : Prop := fnExactPeakOfUptoRow.holds Try.pinned (OpenSpec.upto fnExactPeakOfSpec)

/-- 'laws.FnExactPeakPlan', WHERE WHAT IT READS IS OF BULK AT MOST 1048576: true; the input reads as it did. -/
def fnExactPeakPlanUptoRow : OpenClaim := { program := "ytjlbhpogmjjbiaa", sum := "82bb7fcade84b8a25d776ca69005b46ad97f838e9947f5d05408c58774d30263", func := "loop.example/powercontrol/laws.FnExactPeakPlan", spec := "fnExactPeakPlan", apart := false, narrowed := true }
def FnExactPeakPlanUptoSaid : Prop := fnExactPeakPlanUptoRow.holds Try.pinned (OpenSpec.upto fnExactPeakPlanSpec)

/-- 'laws.FnExactLeastPeak', WHERE WHAT IT READS IS OF BULK AT MOST 1048576: true; the input reads as it did. -/
def fnExactLeastPeakUptoRow : OpenClaim := { program := "ytjlbhpogmjjbiaa", sum := "82bb7fcade84b8a25d776ca69005b46ad97f838e9947f5d05408c58774d30263", func := "loop.example/powercontrol/laws.FnExactLeastPeak", spec := "fnExactLeastPeak", apart := false, narrowed := true }
def FnExactLeastPeakUptoSaid : Prop := fnExactLeastPeakUptoRow.holds Try.pinned (OpenSpec.upto fnExactLeastPeakSpec)

end Rows
end Go.Proofs.Ytjlbhpogmjjbiaa
