/- Parts of slices that read. No statement is proved here. -/
import Derived.Test.YtanogghchmjkgaaDoorLib
import Derived.Test.YtanogghchmjkgaaDoorSnReport
namespace Go.Proofs.YtanogghchmjkgaaDoor
open Go.RowKit
theorem rdPart {w : World} {b o h : Nat} {cs : List Value} (hr : Rd w (some ⟨b, o, none⟩) cs) : Rd w (some ⟨b, o + h, none⟩) (cs.drop h) := by
  intro h0
  obtain ⟨b', o', e, hl, hc⟩ := hr (by simp at h0; omega)
  cases e
  refine ⟨b, o + h, rfl, hl, fun k u hu => ?_⟩
  rw [List.getElem?_drop] at hu
  have := hc (h + k) u hu
  rwa [← Nat.add_assoc] at this
theorem rdFirst {w : World} {A : Option Addr} {h : Nat} {cs : List Value} (hr : Rd w A cs) : Rd w A (cs.take h) := by
  intro h0
  obtain ⟨b, o, e, hl, hc⟩ := hr (by simp at h0; omega)
  refine ⟨b, o, e, hl, fun k u hu => hc k u ?_⟩
  rw [List.getElem?_take] at hu
  split at hu
  · exact hu
  · cases hu
theorem rdTake {w : World} {A : Option Addr} {h : Nat} {xs : List Int} (hr : Rd w A (ints xs)) : Rd w A (ints (xs.take h)) := by
  have := rdFirst (h := h) hr
  simpa [ints] using this
theorem rdDrop {w : World} {b o h : Nat} {xs : List Int} (hr : Rd w (some ⟨b, o, none⟩) (ints xs)) : Rd w (some ⟨b, o + h, none⟩) (ints (xs.drop h)) := by
  have := rdPart (h := h) hr
  simpa [ints] using this
theorem Rd.dropReport {w : World} {b o : Nat} {l : List Report} (h : Rd w (some ⟨b, o, none⟩) (flatReport l)) (k : Nat) : Rd w (some ⟨b, o + k * 2, none⟩) (flatReport (l.drop k)) := by
  by_cases hk : k ≤ l.length
  · have e : flatReport (l.drop k) = (flatReport l).drop (k * 2) := by
      have h1 : flatReport l = flatReport (l.take k) ++ flatReport (l.drop k) := by
        unfold flatReport; rw [← List.flatMap_append, List.take_append_drop]
      have h2 : (flatReport (l.take k)).length = k * 2 := by rw [flatReport_length]; simp; omega
      rw [h1, ← h2, List.drop_left]
    rw [e]; exact rdPart h
  · rw [List.drop_eq_nil_of_le (by omega)]; exact Rd.nil
end Go.Proofs.YtanogghchmjkgaaDoor
