/- Words for functions that draw: what the reader's calls leave alone. No statement is proved here. -/
import Derived.Test.YtjlbhpogmjjbiaaDoorDraw
import Derived.Test.YtjlbhpogmjjbiaaDoorRow
import Derived.Maps.Range
namespace Go.Proofs.YtjlbhpogmjjbiaaDoor
open Go.RowKit

theorem blk_lt {w : World} {g : Nat} {o : Obj} (h : w.heap[g]? = some o) : g < w.heap.size := by
  rcases Nat.lt_or_ge g w.heap.size with hlt | hge
  · exact hlt
  · rw [Array.getElem?_eq_none hge] at h; cases h
/-- a block other than the reader's is kept -/
theorem dr_box {R g : Nat} {w w' : World} {o : Obj} (h : Hid (w.heap[g]? = some o)) (hd : w.grownBy w' (some R)) (hne : g ≠ R) : Hid (w'.heap[g]? = some o) :=
  (hd.block g (blk_lt h.out) (by simpa using hne)).trans h.out
theorem al_box {g : Nat} {w : World} {o : Obj} (h : Hid (w.heap[g]? = some o)) (ob : Obj) : Hid ((w.alloc ob).heap[g]? = some o) :=
  (Below.heap_alloc _ _ _ (blk_lt h.out)).trans h.out
theorem be_box {g : Nat} {w w' : World} {o : Obj} (h : Hid (w.heap[g]? = some o)) (hb : Below w.heap.size w w') : Hid (w'.heap[g]? = some o) :=
  (hb.block g (blk_lt h.out)).trans h.out
theorem st_box {g g' j : Nat} {w : World} {o : Obj} (h : Hid (w.heap[g]? = some o)) (u : Value) (hne : g ≠ g') : Hid ((w.setCell ⟨g', j, none⟩ u).heap[g]? = some o) :=
  (Below.heap_setCell w ⟨g', j, none⟩ u g (by simpa using hne)).trans h.out
theorem st_same {g : Nat} {w : World} {cs : Array Value} {T : TypeId} (h : Hid (w.heap[g]? = some (.cells cs T (0, 0)))) (j : Nat) (u : Value) : Hid ((w.setCell ⟨g, j, none⟩ u).heap[g]? = some (.cells (cs.setIfInBounds j u) T (0, 0))) :=
  heap_setCell_same w g j cs T u h.out
theorem new_box (w : World) (o : Obj) : Hid ((w.alloc o).heap[w.heap.size]? = some o) := heap_alloc_new w o
theorem box_cell {g : Nat} {w : World} {cs : Array Value} {T : TypeId} (h : Hid (w.heap[g]? = some (.cells cs T (0, 0)))) (j : Nat) : w.cell? ⟨g, j, none⟩ = cs[j]? := cell_of_row w g j cs T (0, 0) h.out
theorem box_free {g : Nat} {w : World} {cs : Array Value} {T : TypeId} (h : Hid (w.heap[g]? = some (.cells cs T (0, 0)))) (j : Nat) : w.frozen? ⟨g, j, none⟩ = false := frozen_of_row w g j cs T h.out

theorem blk_lt_rdr {w : World} {R f : Nat} (h : Rdr w R f) : R < w.heap.size := h.lt
theorem rdr_alloc {w : World} {R f : Nat} (h : Rdr w R f) (o : Obj) : Rdr (w.alloc o) R f := h.below (allocB (Below.refl _ _) o)
theorem set_grown (w : World) (g j : Nat) (u : Value) : w.grownBy (w.setCell ⟨g, j, none⟩ u) (some g) :=
  ⟨rfl, rfl, rfl, by simp [World.setCell], fun k _ hk => Below.heap_setCell w ⟨g, j, none⟩ _ k (by intro e; exact hk (by rw [e]))⟩
theorem rdr_set {w : World} {R f g : Nat} (h : Rdr w R f) (j : Nat) (u : Value) (hg : R < g) : Rdr (w.setCell ⟨g, j, none⟩ u) R f := h.kept (set_grown w g j u) (fun k e => by cases e; exact hg)
/-- grown since a, where only blocks from a's end on and the reader's have turned -/
theorem gr_refl (w : World) (R : Nat) : w.grownBy w (some R) := World.grownBy.refl _ _
theorem gr_alloc {a w : World} {R : Nat} (h : a.grownBy w (some R)) (o : Obj) : a.grownBy (w.alloc o) (some R) := h.trans (World.grownBy_alloc w o _)
theorem gr_set {a w : World} {R g : Nat} (h : a.grownBy w (some R)) (j : Nat) (u : Value) (hg : a.heap.size ≤ g) : a.grownBy (w.setCell ⟨g, j, none⟩ u) (some R) :=
  h.andThen (set_grown w g j u) (fun k e => by cases e; exact .inl hg)
theorem gr_row {a w w' : World} {R base n : Nat} {ob : Obj} {E : TypeId} {size : Nat} {v : Value} {cs : List Value} (h : a.grownBy w (some R)) (hown : w.ownsRow base E size v n cs) (hg : (w.alloc ob).grownBy w' v.ownBlock) (hb : a.heap.size ≤ base) : a.grownBy w' (some R) :=
  (gr_alloc h ob).andThen hg (fun k e => .inl (Nat.le_trans hb (hown.lt k e).1))
theorem rdr_row {w w' : World} {R f base n : Nat} {ob : Obj} {E : TypeId} {size : Nat} {v : Value} {cs : List Value} (h : Rdr w R f) (hown : w.ownsRow base E size v n cs) (hg : (w.alloc ob).grownBy w' v.ownBlock) (hb : R < base) : Rdr w' R f :=
  (rdr_alloc h ob).kept hg (fun k e => Nat.lt_of_lt_of_le hb (hown.lt k e).1)
theorem row_dr {w w' : World} {R base n : Nat} {E : TypeId} {size : Nat} {v : Value} {cs : List Value} (hown : w.ownsRow base E size v n cs) (hg : w.grownBy w' (some R)) (hb : R < base) : w'.ownsRow base E size v n cs := by
  refine hown.kept hg ?_
  cases hv : v.ownBlock with
  | none => exact .inl rfl
  | some k => right; have := hown.lt k hv; simp; omega
theorem own_dr {w w' : World} {R base n : Nat} {E : TypeId} {size : Nat} {A : Option Addr} {cs : List Value} (hown : Own w base E size A n cs) (hg : w.grownBy w' (some R)) (hb : R < base) : Own w' base E size A n cs := by
  refine ⟨hown.1, fun hn => ?_⟩
  obtain ⟨g, cur, e, hge, hgg, ht⟩ := hown.2 hn
  exact ⟨g, cur, e, hge, (hg.block g (blk_lt hgg) (by simp; omega)).trans hgg, ht⟩
theorem own_set {w : World} {base n g j : Nat} {u : Value} {E : TypeId} {size : Nat} {A : Option Addr} {cs : List Value} (hown : Own w base E size A n cs) (hb : g < base) : Own (w.setCell ⟨g, j, none⟩ u) base E size A n cs := by
  refine ⟨hown.1, fun hn => ?_⟩
  obtain ⟨g', cur, e, hge, hgg, ht⟩ := hown.2 hn
  exact ⟨g', cur, e, hge, (Below.heap_setCell w ⟨g, j, none⟩ u g' (by simp; omega)).trans hgg, ht⟩
/-- a reader that the call itself has opened: what it turned is new -/
theorem gr_below {a w w' : World} {R : Nat} (h : Below a.heap.size a w) (hg : w.grownBy w' (some R)) (hR : a.heap.size ≤ R) : Below a.heap.size a w' := grown_below h hg hR h.size
theorem be_set {a w : World} {g j : Nat} {u : Value} (h : Below a.heap.size a w) (hg : a.heap.size ≤ g) : Below a.heap.size a (w.setCell ⟨g, j, none⟩ u) := h.setCell (p := ⟨g, j, none⟩) hg u

theorem rdb_below {w w' : World} {A : Option Addr} {m : Nat} (h : RdB w A m) (hb : Below w.heap.size w w') : RdB w' A m := by
  intro h0
  obtain ⟨b, o, e, hlt, hc⟩ := h h0
  refine ⟨b, o, e, Nat.lt_of_lt_of_le hlt hb.size, fun j hj => ?_⟩
  obtain ⟨x, hx0, hx1, hx⟩ := hc j hj
  exact ⟨x, hx0, hx1, (hb.cell (p := ⟨b, o + j, none⟩) hlt).trans hx⟩
theorem row_own {w : World} {base n c : Nat} {E : TypeId} {size : Nat} {A : Option Addr} {cs : List Value} (h : w.ownsRow base E size (.slice A n c) n cs) : Own w base E size A n cs := by
  obtain ⟨A', c', e, ho⟩ := own_of_row h
  cases e
  exact ho
/-- the call returns a value for which P holds; the reader goes on; nothing else that was there has turned -/
def DrV (P : Value → Prop) (R f : Nat) (w : World) (e : Ending) (w' : World) : Prop := ∃ v, e = .returned v ∧ P v ∧ Rdr w' R f ∧ w.grownBy w' (some R)
/-- ints of its own -/
def DrI (m : Nat) (R f : Nat) (w : World) (e : Ending) (w' : World) : Prop :=
  ∃ (xs : List Int) (B : Option Addr) (c : Nat), e = .returned (.slice B xs.length c) ∧ xs.length ≤ m ∧ Own w' w.heap.size 3 1 B xs.length (ints xs) ∧ Rdr w' R f ∧ w.grownBy w' (some R)
end Go.Proofs.YtjlbhpogmjjbiaaDoor
