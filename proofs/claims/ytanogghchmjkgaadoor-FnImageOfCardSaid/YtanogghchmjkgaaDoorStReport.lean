/- The contracts of the laws' own small functions on the struct Report and on slices of it (copying, comparing, marking). No statement is proved here. -/
import Derived.Test.YtanogghchmjkgaaDoorBase
import Derived.StillTailTactics
namespace Go.Proofs.YtanogghchmjkgaaDoor
open Go.RowKit

structure Report where
  fAt : Int
  fValue : Int

namespace Report
def cells (r : Report) : List Value := [.int .i64 r.fAt, .int .i64 r.fValue]
theorem cells_length (r : Report) : r.cells.length = 2 := rfl
def val (r : Report) : Value := .agg #[.int .i64 r.fAt, .int .i64 r.fValue]
def zero : Report := ⟨0, 0⟩
end Report
def flatReport (l : List Report) : List Value := l.flatMap Report.cells
theorem flatReport_length (l : List Report) : (flatReport l).length = l.length * 2 := flat_length _ _ Report.cells_length l

/-- ints, so many at a time, as structs -/
theorem unflatReport : ∀ (n : Nat) (zs : List Int), zs.length = n * 2 → ∃ l : List Report, l.length = n ∧ flatReport l = ints zs
  | 0, zs, h => by
    have : zs = [] := List.eq_nil_of_length_eq_zero (by omega)
    subst this; exact ⟨[], rfl, rfl⟩
  | n + 1, zs, h => by
    match zs, h with
    | z0 :: z1 :: zs, h =>
      obtain ⟨l, hl, e⟩ := unflatReport n zs (by simp only [List.length_cons] at h; omega)
      exact ⟨⟨z0, z1⟩ :: l, by simp [hl], by rw [flatReport, List.flatMap_cons, ← flatReport, e]; rfl⟩
    | [], h => exact absurd h (by simp; try omega)
    | [_], h => exact absurd h (by simp; try omega)

/-- the k-th struct of a slice -/
theorem Rd.atReport {w : World} {A : Option Addr} {l : List Report} (h : Rd w A (flatReport l)) {k : Nat} (hk : k < l.length) :
    ∃ b o, A = some ⟨b, o, none⟩ ∧ b < w.heap.size ∧ w.cell? ⟨b, o + k * 2, none⟩ = some (.int .i64 (l.getD k Report.zero).fAt) ∧ w.cell? ⟨b, o + k * 2 + 1, none⟩ = some (.int .i64 (l.getD k Report.zero).fValue) := by
  obtain ⟨b, o, e, hlt, hc⟩ := h (by rw [flatReport_length]; omega)
  refine ⟨b, o, e, hlt, ?_, ?_⟩
  · have := hc (k * 2 + 0) _ ((flat_get Report.cells 2 Report.cells_length Report.zero l k 0 hk (by omega)).trans rfl); simpa [Nat.add_assoc] using this
  · have := hc (k * 2 + 1) _ ((flat_get Report.cells 2 Report.cells_length Report.zero l k 1 hk (by omega)).trans rfl); simpa [Nat.add_assoc] using this

theorem info_Report : (Tryd.prog.info? 31).map (fun i => (i.zero, i.size, i.bytes)) = some (some (.agg #[.int .i64 0, .int .i64 0]), 2, 16) := by kernel_rfl







end Go.Proofs.YtanogghchmjkgaaDoor
