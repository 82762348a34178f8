/- Regions that draw their order and hold calls that make memory of their own: one walk in the order of the text serves every order, over the class of the worlds in which nothing that was there has turned. No statement is proved here. -/
import Derived.Test.YtdlphgknplomkaaDoorBase
namespace Go.Proofs.YtdlphgknplomkaaDoor
open Go.RowKit

/-- a world behind w in which nothing that was there has turned -/
structure After (w : World) where
  wd : World
  below : Below w.heap.size w wd
instance (w : World) : Nonempty (After w) := ⟨⟨w, Below.refl _ _⟩⟩
theorem wp_region_after {P : Program} {id : Nat} {Q : Exit → Act → World → Prop} {a : Act} {w : World} {l : List Oper} (hm : P.follows .mixedOrders = true) (hB : Region.lexB .any l.toArray = true)
    (h : wpQuiet P l.toArray (fun w' => ∃ i : After w, w' = i.wd) (fun a' => ∀ w', (∃ i : After w, w' = i.wd) → Q .normal a' w') l a) : (Code.region id l.toArray true).wp P Q a w :=
  wp_region_quiet (C := fun w' => ∃ i : After w, w' = i.wd) hm hB ⟨⟨_, drew1B (Below.refl _ _)⟩, rfl⟩ (by simpa using h)
theorem after_call {P : Program} {f : FuncId} {args : Array Value} {w : World} {i : After w} {v : Value} (h : Calls P f args i.wd fun e w' => e = .returned v ∧ Below i.wd.heap.size i.wd w') :
    Calls P f args i.wd fun e w'' => e = .returned v ∧ ∃ j : After w, w'' = j.wd :=
  h.mono fun _ w' ⟨he, hb⟩ => ⟨he, ⟨w', seqB i.below hb⟩, rfl⟩
theorem after_same {P : Program} {f : FuncId} {args : Array Value} {w : World} {i : After w} {v : Value} (h : Calls P f args i.wd fun e w' => e = .returned v ∧ i.wd = w') :
    Calls P f args i.wd fun e w'' => e = .returned v ∧ ∃ j : After w, w'' = j.wd :=
  h.mono fun _ _ ⟨he, hb⟩ => ⟨he, i, hb.symm⟩
theorem after_draws {P : Program} {f : FuncId} {args : Array Value} {w : World} {i : After w} {v : Value} (h : Calls P f args i.wd fun e w' => e = .returned v ∧ ∃ q, w' = i.wd.drewN q) :
    Calls P f args i.wd fun e w'' => e = .returned v ∧ ∃ j : After w, w'' = j.wd :=
  h.mono fun _ w' ⟨he, q, hb⟩ => ⟨he, ⟨w', by rw [hb]; exact drewNB i.below q⟩, rfl⟩
theorem After.cell {w : World} (i : After w) {a : Addr} {v : Value} (h : w.cell? a = some v) : i.wd.cell? a = some v := (i.below.cell (World.block_lt_of_cell? w _ h)).trans h
end Go.Proofs.YtdlphgknplomkaaDoor
