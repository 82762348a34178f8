/- Lists of the struct Entry in memory: one more at the end. No statement is proved here. -/
import Derived.Test.YtdlphgknplomkaaDoorStEntry
import Derived.Test.YtdlphgknplomkaaDoorRow
namespace Go.Proofs.YtdlphgknplomkaaDoor
open Go.RowKit

theorem flatEntry_snoc (l : List Entry) (r : Entry) : flatEntry (l ++ [r]) = flatEntry l ++ [.int .i64 r.fTime, .int .i64 r.fWho, .int .i64 r.fNumber, .int .i64 r.fValue] := by
  simp [flatEntry, Entry.cells]
theorem snocEntry {w : World} {v : Value} {base : Nat} {E : TypeId} {acc l' : List Entry} {r : Entry} (h : w.ownsRow base E 4 v (acc.length + 1) (flatEntry acc ++ [.int .i64 r.fTime, .int .i64 r.fWho, .int .i64 r.fNumber, .int .i64 r.fValue])) (e : l' = acc ++ [r]) :
    ∃ B c, v = .slice B l'.length c ∧ w.ownsRow base E 4 (.slice B l'.length c) l'.length (flatEntry l') := by
  subst e
  rw [← flatEntry_snoc] at h
  obtain ⟨B, c, rfl, _⟩ := own_of_row h
  rw [List.length_append, List.length_singleton]
  exact ⟨B, c, rfl, h⟩
end Go.Proofs.YtdlphgknplomkaaDoor
