/- The contracts of the laws' own small functions on the struct Order and on slices of it (copying, comparing, marking). No statement is proved here. -/
import Derived.Test.YtlhfkidgmdojjaaDoorBase
import Derived.StillTailTactics
namespace Go.Proofs.YtlhfkidgmdojjaaDoor
open Go.RowKit

structure Order where
  fPrice : Int
  fMany : Int

namespace Order
def cells (r : Order) : List Value := [.int .i64 r.fPrice, .int .i64 r.fMany]
theorem cells_length (r : Order) : r.cells.length = 2 := rfl
def val (r : Order) : Value := .agg #[.int .i64 r.fPrice, .int .i64 r.fMany]
def zero : Order := ⟨0, 0⟩
end Order
def flatOrder (l : List Order) : List Value := l.flatMap Order.cells
theorem flatOrder_length (l : List Order) : (flatOrder l).length = l.length * 2 := flat_length _ _ Order.cells_length l

/-- ints, so many at a time, as structs -/
theorem unflatOrder : ∀ (n : Nat) (zs : List Int), zs.length = n * 2 → ∃ l : List Order, l.length = n ∧ flatOrder l = ints zs
  | 0, zs, h => by
    have : zs = [] := List.eq_nil_of_length_eq_zero (by omega)
    subst this; exact ⟨[], rfl, rfl⟩
  | n + 1, zs, h => by
    match zs, h with
    | z0 :: z1 :: zs, h =>
      obtain ⟨l, hl, e⟩ := unflatOrder n zs (by simp only [List.length_cons] at h; omega)
      exact ⟨⟨z0, z1⟩ :: l, by simp [hl], by rw [flatOrder, List.flatMap_cons, ← flatOrder, e]; rfl⟩
    | [], h => exact absurd h (by simp; try omega)
    | [_], h => exact absurd h (by simp; try omega)

/-- the k-th struct of a slice -/
theorem Rd.atOrder {w : World} {A : Option Addr} {l : List Order} (h : Rd w A (flatOrder l)) {k : Nat} (hk : k < l.length) :
    ∃ b o, A = some ⟨b, o, none⟩ ∧ b < w.heap.size ∧ w.cell? ⟨b, o + k * 2, none⟩ = some (.int .i64 (l.getD k Order.zero).fPrice) ∧ w.cell? ⟨b, o + k * 2 + 1, none⟩ = some (.int .i64 (l.getD k Order.zero).fMany) := by
  obtain ⟨b, o, e, hlt, hc⟩ := h (by rw [flatOrder_length]; omega)
  refine ⟨b, o, e, hlt, ?_, ?_⟩
  · have := hc (k * 2 + 0) _ ((flat_get Order.cells 2 Order.cells_length Order.zero l k 0 hk (by omega)).trans rfl); simpa [Nat.add_assoc] using this
  · have := hc (k * 2 + 1) _ ((flat_get Order.cells 2 Order.cells_length Order.zero l k 1 hk (by omega)).trans rfl); simpa [Nat.add_assoc] using this

theorem info_Order : (Tryd.prog.info? 33).map (fun i => (i.zero, i.size, i.bytes)) = some (some (.agg #[.int .i64 0, .int .i64 0]), 2, 16) := by kernel_rfl







end Go.Proofs.YtlhfkidgmdojjaaDoor
