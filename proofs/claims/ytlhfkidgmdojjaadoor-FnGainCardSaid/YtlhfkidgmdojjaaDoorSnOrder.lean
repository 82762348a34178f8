/- Lists of the struct Order in memory: one more at the end. No statement is proved here. -/
import Derived.Test.YtlhfkidgmdojjaaDoorStOrder
import Derived.Test.YtlhfkidgmdojjaaDoorRow
namespace Go.Proofs.YtlhfkidgmdojjaaDoor
open Go.RowKit

theorem flatOrder_snoc (l : List Order) (r : Order) : flatOrder (l ++ [r]) = flatOrder l ++ [.int .i64 r.fPrice, .int .i64 r.fMany] := by
  simp [flatOrder, Order.cells]
theorem snocOrder {w : World} {v : Value} {base : Nat} {E : TypeId} {acc l' : List Order} {r : Order} (h : w.ownsRow base E 2 v (acc.length + 1) (flatOrder acc ++ [.int .i64 r.fPrice, .int .i64 r.fMany])) (e : l' = acc ++ [r]) :
    ∃ B c, v = .slice B l'.length c ∧ w.ownsRow base E 2 (.slice B l'.length c) l'.length (flatOrder l') := by
  subst e
  rw [← flatOrder_snoc] at h
  obtain ⟨B, c, rfl, _⟩ := own_of_row h
  rw [List.length_append, List.length_singleton]
  exact ⟨B, c, rfl, h⟩
theorem Rd.takeOrder {w : World} {A : Option Addr} {l : List Order} (h : Rd w A (flatOrder l)) (k : Nat) : Rd w A (flatOrder (l.take k)) := by
  intro h0
  have hpre : flatOrder l = flatOrder (l.take k) ++ flatOrder (l.drop k) := by
    unfold flatOrder
    rw [← List.flatMap_append, List.take_append_drop]
  obtain ⟨b, o, e, hlt, hc⟩ := h (by rw [hpre, List.length_append]; omega)
  refine ⟨b, o, e, hlt, fun i u hu => hc i u ?_⟩
  rw [hpre, List.getElem?_append_left]
  · exact hu
  · rcases Nat.lt_or_ge i (flatOrder (l.take k)).length with h | h
    · exact h
    · rw [List.getElem?_eq_none h] at hu; cases hu
end Go.Proofs.YtlhfkidgmdojjaaDoor
