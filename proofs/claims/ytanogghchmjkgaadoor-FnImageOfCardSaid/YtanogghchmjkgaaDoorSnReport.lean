/- Lists of the struct Report in memory: one more at the end. No statement is proved here. -/
import Derived.Test.YtanogghchmjkgaaDoorStReport
import Derived.Test.YtanogghchmjkgaaDoorRow
namespace Go.Proofs.YtanogghchmjkgaaDoor
open Go.RowKit

theorem flatReport_snoc (l : List Report) (r : Report) : flatReport (l ++ [r]) = flatReport l ++ [.int .i64 r.fAt, .int .i64 r.fValue] := by
  simp [flatReport, Report.cells]
theorem snocReport {w : World} {v : Value} {base : Nat} {E : TypeId} {acc l' : List Report} {r : Report} (h : w.ownsRow base E 2 v (acc.length + 1) (flatReport acc ++ [.int .i64 r.fAt, .int .i64 r.fValue])) (e : l' = acc ++ [r]) :
    ∃ B c, v = .slice B l'.length c ∧ w.ownsRow base E 2 (.slice B l'.length c) l'.length (flatReport l') := by
  subst e
  rw [← flatReport_snoc] at h
  obtain ⟨B, c, rfl, _⟩ := own_of_row h
  rw [List.length_append, List.length_singleton]
  exact ⟨B, c, rfl, h⟩
theorem Rd.takeReport {w : World} {A : Option Addr} {l : List Report} (h : Rd w A (flatReport l)) (k : Nat) : Rd w A (flatReport (l.take k)) := by
  intro h0
  have hpre : flatReport l = flatReport (l.take k) ++ flatReport (l.drop k) := by
    unfold flatReport
    rw [← List.flatMap_append, List.take_append_drop]
  obtain ⟨b, o, e, hlt, hc⟩ := h (by rw [hpre, List.length_append]; omega)
  refine ⟨b, o, e, hlt, fun i u hu => hc i u ?_⟩
  rw [hpre, List.getElem?_append_left]
  · exact hu
  · rcases Nat.lt_or_ge i (flatReport (l.take k)).length with h | h
    · exact h
    · rw [List.getElem?_eq_none h] at hu; cases hu
end Go.Proofs.YtanogghchmjkgaaDoor
