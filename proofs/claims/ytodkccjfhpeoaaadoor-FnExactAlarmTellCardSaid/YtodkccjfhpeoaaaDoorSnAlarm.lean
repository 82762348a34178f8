/- Lists of the struct Alarm in memory: one more at the end. No statement is proved here. -/
import Derived.Test.YtodkccjfhpeoaaaDoorStAlarm
import Derived.Test.YtodkccjfhpeoaaaDoorRow
namespace Go.Proofs.YtodkccjfhpeoaaaDoor
open Go.RowKit

theorem flatAlarm_snoc (l : List Alarm) (r : Alarm) : flatAlarm (l ++ [r]) = flatAlarm l ++ [.int .i64 r.fRank, .int .i64 r.fState, .int .i64 r.fSince] := by
  simp [flatAlarm, Alarm.cells]
theorem snocAlarm {w : World} {v : Value} {base : Nat} {E : TypeId} {acc l' : List Alarm} {r : Alarm} (h : w.ownsRow base E 3 v (acc.length + 1) (flatAlarm acc ++ [.int .i64 r.fRank, .int .i64 r.fState, .int .i64 r.fSince])) (e : l' = acc ++ [r]) :
    ∃ B c, v = .slice B l'.length c ∧ w.ownsRow base E 3 (.slice B l'.length c) l'.length (flatAlarm l') := by
  subst e
  rw [← flatAlarm_snoc] at h
  obtain ⟨B, c, rfl, _⟩ := own_of_row h
  rw [List.length_append, List.length_singleton]
  exact ⟨B, c, rfl, h⟩
theorem Rd.takeAlarm {w : World} {A : Option Addr} {l : List Alarm} (h : Rd w A (flatAlarm l)) (k : Nat) : Rd w A (flatAlarm (l.take k)) := by
  intro h0
  have hpre : flatAlarm l = flatAlarm (l.take k) ++ flatAlarm (l.drop k) := by
    unfold flatAlarm
    rw [← List.flatMap_append, List.take_append_drop]
  obtain ⟨b, o, e, hlt, hc⟩ := h (by rw [hpre, List.length_append]; omega)
  refine ⟨b, o, e, hlt, fun i u hu => hc i u ?_⟩
  rw [hpre, List.getElem?_append_left]
  · exact hu
  · rcases Nat.lt_or_ge i (flatAlarm (l.take k)).length with h | h
    · exact h
    · rw [List.getElem?_eq_none h] at hu; cases hu
end Go.Proofs.YtodkccjfhpeoaaaDoor
