/- Words for blocks that are known whole, for seats with no reader. No statement is proved here. -/
import Derived.Test.YtdlphgknplomkaaRow
import Derived.Test.YtdlphgknplomkaaApp
namespace Go.Proofs.Ytdlphgknplomkaa
open Go.RowKit
theorem keepC {w w' : World} {a : Addr} {v : Value} (h : w.cell? a = some v) (hb : Below w.heap.size w w') : w'.cell? a = some v :=
  (hb.cell (World.block_lt_of_cell? w _ h)).trans h
theorem boxes3 (w : World) (o1 o2 o3 : Obj) : (((w.alloc o1).alloc o2).alloc o3).heap[w.heap.size]? = some o1 ∧ (((w.alloc o1).alloc o2).alloc o3).heap[w.heap.size + 1]? = some o2 ∧ (((w.alloc o1).alloc o2).alloc o3).heap[w.heap.size + 2]? = some o3 := by
  refine ⟨?_, ?_, ?_⟩
  · rw [Below.heap_alloc _ _ _ (by simp; omega), Below.heap_alloc _ _ _ (by simp)]; exact heap_alloc_new w _
  · rw [Below.heap_alloc _ _ _ (by simp)]
    have := heap_alloc_new (w.alloc o1) o2
    simpa using this
  · have := heap_alloc_new ((w.alloc o1).alloc o2) o3
    simpa using this
theorem blk_lt {w : World} {g : Nat} {o : Obj} (h : w.heap[g]? = some o) : g < w.heap.size := by
  rcases Nat.lt_or_ge g w.heap.size with hlt | hge
  · exact hlt
  · rw [Array.getElem?_eq_none hge] at h; cases h
theorem be_box {g : Nat} {w w' : World} {o : Obj} (h : Hid (w.heap[g]? = some o)) (hb : Below w.heap.size w w') : Hid (w'.heap[g]? = some o) :=
  (hb.block g (blk_lt h.out)).trans h.out
theorem st_box {g g' j : Nat} {w : World} {o : Obj} (h : Hid (w.heap[g]? = some o)) (u : Value) (hne : g ≠ g') : Hid ((w.setCell ⟨g', j, none⟩ u).heap[g]? = some o) :=
  (Below.heap_setCell w ⟨g', j, none⟩ u g (by simpa using hne)).trans h.out
theorem st_same {g : Nat} {w : World} {cs : Array Value} {T : TypeId} (h : Hid (w.heap[g]? = some (.cells cs T (0, 0)))) (j : Nat) (u : Value) : Hid ((w.setCell ⟨g, j, none⟩ u).heap[g]? = some (.cells (cs.setIfInBounds j u) T (0, 0))) :=
  heap_setCell_same w g j cs T u h.out
theorem new_box (w : World) (o : Obj) : Hid ((w.alloc o).heap[w.heap.size]? = some o) := heap_alloc_new w o
theorem box_cell {g : Nat} {w : World} {cs : Array Value} {T : TypeId} (h : Hid (w.heap[g]? = some (.cells cs T (0, 0)))) (j : Nat) : w.cell? ⟨g, j, none⟩ = cs[j]? := cell_of_row w g j cs T (0, 0) h.out
theorem box_free {g : Nat} {w : World} {cs : Array Value} {T : TypeId} (h : Hid (w.heap[g]? = some (.cells cs T (0, 0)))) (j : Nat) : w.frozen? ⟨g, j, none⟩ = false := frozen_of_row w g j cs T h.out
theorem own_set {w : World} {base n g j : Nat} {u : Value} {E : TypeId} {size : Nat} {A : Option Addr} {cs : List Value} (hown : Own w base E size A n cs) (hb : g < base) : Own (w.setCell ⟨g, j, none⟩ u) base E size A n cs := by
  refine ⟨hown.1, fun hn => ?_⟩
  obtain ⟨g', cur, e, hge, hgg, ht⟩ := hown.2 hn
  exact ⟨g', cur, e, hge, (Below.heap_setCell w ⟨g, j, none⟩ u g' (by simp; omega)).trans hgg, ht⟩
theorem be_set {a w : World} {g j : Nat} {u : Value} (h : Below a.heap.size a w) (hg : a.heap.size ≤ g) : Below a.heap.size a (w.setCell ⟨g, j, none⟩ u) := h.setCell (p := ⟨g, j, none⟩) hg u
theorem row_own {w : World} {base n c : Nat} {E : TypeId} {size : Nat} {A : Option Addr} {cs : List Value} (h : w.ownsRow base E size (.slice A n c) n cs) : Own w base E size A n cs := by
  obtain ⟨A', c', e, ho⟩ := own_of_row h
  cases e
  exact ho
theorem rdPart {w : World} {b o h : Nat} {cs : List Value} (hr : Rd w (some ⟨b, o, none⟩) cs) : Rd w (some ⟨b, o + h, none⟩) (cs.drop h) := by
  intro h0
  obtain ⟨b', o', e, hl, hc⟩ := hr (by simp at h0; omega)
  cases e
  refine ⟨b, o + h, rfl, hl, fun k u hu => ?_⟩
  rw [List.getElem?_drop] at hu
  have := hc (h + k) u hu
  rwa [← Nat.add_assoc] at this
theorem rdFirst {w : World} {A : Option Addr} {h : Nat} {cs : List Value} (hr : Rd w A cs) : Rd w A (cs.take h) := by
  intro h0
  obtain ⟨b, o, e, hl, hc⟩ := hr (by simp at h0; omega)
  refine ⟨b, o, e, hl, fun k u hu => hc k u ?_⟩
  rw [List.getElem?_take] at hu
  split at hu
  · exact hu
  · cases hu
theorem row_is {w : World} {base : Nat} {E : TypeId} {size n n' : Nat} {v : Value} {cs cs' : List Value} (h : w.ownsRow base E size v n cs) (e1 : n = n') (e2 : cs = cs') : ∃ B c, v = .slice B n' c ∧ w.ownsRow base E size (.slice B n' c) n' cs' := by
  subst e1; subst e2
  obtain ⟨B, c, rfl, _⟩ := own_of_row h
  exact ⟨B, c, rfl, h⟩
end Go.Proofs.Ytdlphgknplomkaa
