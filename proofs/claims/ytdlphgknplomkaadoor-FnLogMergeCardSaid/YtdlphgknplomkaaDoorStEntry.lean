/- The contracts of the laws' own small functions on the struct Entry and on slices of it (copying, comparing, marking). No statement is proved here. -/
import Derived.Test.YtdlphgknplomkaaDoorBase
import Derived.StillTailTactics
namespace Go.Proofs.YtdlphgknplomkaaDoor
open Go.RowKit

structure Entry where
  fTime : Int
  fWho : Int
  fNumber : Int
  fValue : Int

namespace Entry
def cells (r : Entry) : List Value := [.int .i64 r.fTime, .int .i64 r.fWho, .int .i64 r.fNumber, .int .i64 r.fValue]
theorem cells_length (r : Entry) : r.cells.length = 4 := rfl
def val (r : Entry) : Value := .agg #[.int .i64 r.fTime, .int .i64 r.fWho, .int .i64 r.fNumber, .int .i64 r.fValue]
def zero : Entry := ⟨0, 0, 0, 0⟩
end Entry
def flatEntry (l : List Entry) : List Value := l.flatMap Entry.cells
theorem flatEntry_length (l : List Entry) : (flatEntry l).length = l.length * 4 := flat_length _ _ Entry.cells_length l

/-- ints, so many at a time, as structs -/
theorem unflatEntry : ∀ (n : Nat) (zs : List Int), zs.length = n * 4 → ∃ l : List Entry, l.length = n ∧ flatEntry l = ints zs
  | 0, zs, h => by
    have : zs = [] := List.eq_nil_of_length_eq_zero (by omega)
    subst this; exact ⟨[], rfl, rfl⟩
  | n + 1, zs, h => by
    match zs, h with
    | z0 :: z1 :: z2 :: z3 :: zs, h =>
      obtain ⟨l, hl, e⟩ := unflatEntry n zs (by simp only [List.length_cons] at h; omega)
      exact ⟨⟨z0, z1, z2, z3⟩ :: l, by simp [hl], by rw [flatEntry, List.flatMap_cons, ← flatEntry, e]; rfl⟩
    | [], h => exact absurd h (by simp; try omega)
    | [_], h => exact absurd h (by simp; try omega)
    | [_, _], h => exact absurd h (by simp; try omega)
    | [_, _, _], h => exact absurd h (by simp; try omega)

/-- the k-th struct of a slice -/
theorem Rd.atEntry {w : World} {A : Option Addr} {l : List Entry} (h : Rd w A (flatEntry l)) {k : Nat} (hk : k < l.length) :
    ∃ b o, A = some ⟨b, o, none⟩ ∧ b < w.heap.size ∧ w.cell? ⟨b, o + k * 4, none⟩ = some (.int .i64 (l.getD k Entry.zero).fTime) ∧ w.cell? ⟨b, o + k * 4 + 1, none⟩ = some (.int .i64 (l.getD k Entry.zero).fWho) ∧ w.cell? ⟨b, o + k * 4 + 2, none⟩ = some (.int .i64 (l.getD k Entry.zero).fNumber) ∧ w.cell? ⟨b, o + k * 4 + 3, none⟩ = some (.int .i64 (l.getD k Entry.zero).fValue) := by
  obtain ⟨b, o, e, hlt, hc⟩ := h (by rw [flatEntry_length]; omega)
  refine ⟨b, o, e, hlt, ?_, ?_, ?_, ?_⟩
  · have := hc (k * 4 + 0) _ ((flat_get Entry.cells 4 Entry.cells_length Entry.zero l k 0 hk (by omega)).trans rfl); simpa [Nat.add_assoc] using this
  · have := hc (k * 4 + 1) _ ((flat_get Entry.cells 4 Entry.cells_length Entry.zero l k 1 hk (by omega)).trans rfl); simpa [Nat.add_assoc] using this
  · have := hc (k * 4 + 2) _ ((flat_get Entry.cells 4 Entry.cells_length Entry.zero l k 2 hk (by omega)).trans rfl); simpa [Nat.add_assoc] using this
  · have := hc (k * 4 + 3) _ ((flat_get Entry.cells 4 Entry.cells_length Entry.zero l k 3 hk (by omega)).trans rfl); simpa [Nat.add_assoc] using this

theorem info_Entry : (Tryd.prog.info? 25).map (fun i => (i.zero, i.size, i.bytes)) = some (some (.agg #[.int .i64 0, .int .i64 0, .int .i64 0, .int .i64 0]), 4, 32) := by kernel_rfl







end Go.Proofs.YtdlphgknplomkaaDoor
