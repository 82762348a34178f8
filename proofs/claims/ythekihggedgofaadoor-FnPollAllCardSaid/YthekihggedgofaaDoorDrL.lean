/- Words for functions that draw: what the reader's calls leave alone. No statement is proved here. -/
import Derived.Test.YthekihggedgofaaDoorDraw
import Derived.Test.YthekihggedgofaaDoorRow
import Derived.Maps.Range
namespace Go.Proofs.YthekihggedgofaaDoor
open Go.RowKit

theorem blk_lt {w : World} {g : Nat} {o : Obj} (h : w.heap[g]? = some o) : g < w.heap.size := by
  rcases Nat.lt_or_ge g w.heap.size with hlt | hge
  · exact hlt
  · rw [Array.getElem?_eq_none hge] at h; cases h
/-- a block other than the reader's is kept -/
theorem dr_box {R g : Nat} {w w' : World} {o : Obj} (h : Hid (w.heap[g]? = some o)) (hd : w.grownBy w' (some R)) (hne : g ≠ R) : Hid (w'.heap[g]? = some o) :=
  (hd.block g (blk_lt h.out) (by simpa using hne)).trans h.out
theorem al_box {g : Nat} {w : World} {o : Obj} (h : Hid (w.heap[g]? = some o)) (ob : Obj) : Hid ((w.alloc ob).heap[g]? = some o) :=
  (Below.heap_alloc _ _ _ (blk_lt h.out)).trans h.out
theorem be_box {g : Nat} {w w' : World} {o : Obj} (h : Hid (w.heap[g]? = some o)) (hb : Below w.heap.size w w') : Hid (w'.heap[g]? = some o) :=
  (hb.block g (blk_lt h.out)).trans h.out
theorem st_box {g g' j : Nat} {w : World} {o : Obj} (h : Hid (w.heap[g]? = some o)) (u : Value) (hne : g ≠ g') : Hid ((w.setCell ⟨g', j, none⟩ u).heap[g]? = some o) :=
  (Below.heap_setCell w ⟨g', j, none⟩ u g (by simpa using hne)).trans h.out
theorem st_same {g : Nat} {w : World} {cs : Array Value} {T : TypeId} (h : Hid (w.heap[g]? = some (.cells cs T (0, 0)))) (j : Nat) (u : Value) : Hid ((w.setCell ⟨g, j, none⟩ u).heap[g]? = some (.cells (cs.setIfInBounds j u) T (0, 0))) :=
  heap_setCell_same w g j cs T u h.out
theorem new_box (w : World) (o : Obj) : Hid ((w.alloc o).heap[w.heap.size]? = some o) := heap_alloc_new w o
theorem box_cell {g : Nat} {w : World} {cs : Array Value} {T : TypeId} (h : Hid (w.heap[g]? = some (.cells cs T (0, 0)))) (j : Nat) : w.cell? ⟨g, j, none⟩ = cs[j]? := cell_of_row w g j cs T (0, 0) h.out
theorem box_free {g : Nat} {w : World} {cs : Array Value} {T : TypeId} (h : Hid (w.heap[g]? = some (.cells cs T (0, 0)))) (j : Nat) : w.frozen? ⟨g, j, none⟩ = false := frozen_of_row w g j cs T h.out

theorem blk_lt_rdr {w : World} {R f : Nat} (h : Rdr w R f) : R < w.heap.size := h.lt
theorem rdr_alloc {w : World} {R f : Nat} (h : Rdr w R f) (o : Obj) : Rdr (w.alloc o) R f := h.below (allocB (Below.refl _ _) o)
theorem set_grown (w : World) (g j : Nat) (u : Value) : w.grownBy (w.setCell ⟨g, j, none⟩ u) (some g) :=
  ⟨rfl, rfl, rfl, by simp [World.setCell], fun k _ hk => Below.heap_setCell w ⟨g, j, none⟩ _ k (by intro e; exact hk (by rw [e]))⟩
theorem rdr_set {w : World} {R f g : Nat} (h : Rdr w R f) (j : Nat) (u : Value) (hg : R < g) : Rdr (w.setCell ⟨g, j, none⟩ u) R f := h.kept (set_grown w g j u) (fun k e => by cases e; exact hg)
/-- grown since a, where only blocks from a's end on and the reader's have turned -/
theorem gr_refl (w : World) (R : Nat) : w.grownBy w (some R) := World.grownBy.refl _ _
theorem gr_alloc {a w : World} {R : Nat} (h : a.grownBy w (some R)) (o : Obj) : a.grownBy (w.alloc o) (some R) := h.trans (World.grownBy_alloc w o _)
theorem gr_set {a w : World} {R g : Nat} (h : a.grownBy w (some R)) (j : Nat) (u : Value) (hg : a.heap.size ≤ g) : a.grownBy (w.setCell ⟨g, j, none⟩ u) (some R) :=
  h.andThen (set_grown w g j u) (fun k e => by cases e; exact .inl hg)
theorem gr_row {a w w' : World} {R base n : Nat} {ob : Obj} {E : TypeId} {size : Nat} {v : Value} {cs : List Value} (h : a.grownBy w (some R)) (hown : w.ownsRow base E size v n cs) (hg : (w.alloc ob).grownBy w' v.ownBlock) (hb : a.heap.size ≤ base) : a.grownBy w' (some R) :=
  (gr_alloc h ob).andThen hg (fun k e => .inl (Nat.le_trans hb (hown.lt k e).1))
theorem rdr_row {w w' : World} {R f base n : Nat} {ob : Obj} {E : TypeId} {size : Nat} {v : Value} {cs : List Value} (h : Rdr w R f) (hown : w.ownsRow base E size v n cs) (hg : (w.alloc ob).grownBy w' v.ownBlock) (hb : R < base) : Rdr w' R f :=
  (rdr_alloc h ob).kept hg (fun k e => Nat.lt_of_lt_of_le hb (hown.lt k e).1)
theorem row_dr {w w' : World} {R base n : Nat} {E : TypeId} {size : Nat} {v : Value} {cs : List Value} (hown : w.ownsRow base E size v n cs) (hg : w.grownBy w' (some R)) (hb : R < base) : w'.ownsRow base E size v n cs := by
  refine hown.kept hg ?_
  cases hv : v.ownBlock with
  | none => exact .inl rfl
  | some k => right; have := hown.lt k hv; simp; omega
theorem own_dr {w w' : World} {R base n : Nat} {E : TypeId} {size : Nat} {A : Option Addr} {cs : List Value} (hown : Own w base E size A n cs) (hg : w.grownBy w' (some R)) (hb : R < base) : Own w' base E size A n cs := by
  refine ⟨hown.1, fun hn => ?_⟩
  obtain ⟨g, cur, e, hge, hgg, ht⟩ := hown.2 hn
  exact ⟨g, cur, e, hge, (hg.block g (blk_lt hgg) (by simp; omega)).trans hgg, ht⟩
theorem own_set {w : World} {base n g j : Nat} {u : Value} {E : TypeId} {size : Nat} {A : Option Addr} {cs : List Value} (hown : Own w base E size A n cs) (hb : g < base) : Own (w.setCell ⟨g, j, none⟩ u) base E size A n cs := by
  refine ⟨hown.1, fun hn => ?_⟩
  obtain ⟨g', cur, e, hge, hgg, ht⟩ := hown.2 hn
  exact ⟨g', cur, e, hge, (Below.heap_setCell w ⟨g, j, none⟩ u g' (by simp; omega)).trans hgg, ht⟩
/-- a reader that the call itself has opened: what it turned is new -/
theorem gr_below {a w w' : World} {R : Nat} (h : Below a.heap.size a w) (hg : w.grownBy w' (some R)) (hR : a.heap.size ≤ R) : Below a.heap.size a w' := grown_below h hg hR h.size
theorem be_set {a w : World} {g j : Nat} {u : Value} (h : Below a.heap.size a w) (hg : a.heap.size ≤ g) : Below a.heap.size a (w.setCell ⟨g, j, none⟩ u) := h.setCell (p := ⟨g, j, none⟩) hg u

theorem rdb_below {w w' : World} {A : Option Addr} {m : Nat} (h : RdB w A m) (hb : Below w.heap.size w w') : RdB w' A m := by
  intro h0
  obtain ⟨b, o, e, hlt, hc⟩ := h h0
  refine ⟨b, o, e, Nat.lt_of_lt_of_le hlt hb.size, fun j hj => ?_⟩
  obtain ⟨x, hx0, hx1, hx⟩ := hc j hj
  exact ⟨x, hx0, hx1, (hb.cell (p := ⟨b, o + j, none⟩) hlt).trans hx⟩
theorem row_own {w : World} {base n c : Nat} {E : TypeId} {size : Nat} {A : Option Addr} {cs : List Value} (h : w.ownsRow base E size (.slice A n c) n cs) : Own w base E size A n cs := by
  obtain ⟨A', c', e, ho⟩ := own_of_row h
  cases e
  exact ho
/-- the call returns a value for which P holds; the reader goes on; nothing else that was there has turned -/
def DrV (P : Value → Prop) (R f : Nat) (w : World) (e : Ending) (w' : World) : Prop := ∃ v, e = .returned v ∧ P v ∧ Rdr w' R f ∧ w.grownBy w' (some R)
/-- the form of a slice that a call has made -/
def Fm (A : Option Addr) (n c : Nat) : Prop := n ≤ c ∧ (A = none ∧ c = 0 ∨ ∃ g, A = some ⟨g, 0, none⟩)
theorem row_fm {w : World} {base n c : Nat} {E : TypeId} {size : Nat} {A : Option Addr} {cs : List Value} (h : w.ownsRow base E size (.slice A n c) n cs) : Fm A n c := by
  rcases h.2 with ⟨e, _⟩ | ⟨g, cap, cur, e, _, _, hn, _⟩
  · cases e; exact ⟨Nat.le_refl _, .inl ⟨rfl, rfl⟩⟩
  · cases e; exact ⟨hn, .inr ⟨g, rfl⟩⟩
/-- ints of its own -/
def DrI (m : Nat) (R f : Nat) (w : World) (e : Ending) (w' : World) : Prop :=
  ∃ (xs : List Int) (B : Option Addr) (c : Nat), e = .returned (.slice B xs.length c) ∧ xs.length ≤ m ∧ Fm B xs.length c ∧ Own w' w.heap.size 3 1 B xs.length (ints xs) ∧ Rdr w' R f ∧ w.grownBy w' (some R)

/- stores of a struct of three ints into a block that is known whole, next to a reader -/
theorem rdr_other {w : World} {R f g : Nat} {cs : Array Value} {T : TypeId} (h : Rdr w R f) (hb : Hid (w.heap[g]? = some (.cells cs T (0, 0)))) (hcs : ∀ (j : Nat) (x : Int), cs[j]? ≠ some (.int .u8 x)) (hne : g ≠ R) (j : Nat) (u : Value) : Rdr (w.setCell ⟨g, j, none⟩ u) R f := by
  obtain ⟨A, m, c, p, h1, h2, h3, h4, h5⟩ := h
  have hg := set_grown w g j u
  refine ⟨A, m, c, p, (hg.block R (blk_lt h1) (by simp; omega)).trans h1, h2, h3, h4.grown (fun a ha h0 e => ?_) hg, h5⟩
  obtain ⟨b, o, e', hlt, hcc⟩ := h4 h0
  rw [ha] at e'; cases e'
  obtain ⟨x, _, _, hx⟩ := hcc 0 h0
  simp at e
  subst e
  rw [box_cell hb] at hx
  exact hcs _ _ hx
abbrev set3 (w : World) (g : Nat) (x y z : Value) : World := ((w.setCell ⟨g, 0, none⟩ x).setCell ⟨g, 1, none⟩ y).setCell ⟨g, 2, none⟩ z
theorem box3 {w : World} {g : Nat} {a b c : Value} {T : TypeId} (h : Hid (w.heap[g]? = some (.cells #[a, b, c] T (0, 0)))) (x y z : Value) : Hid ((set3 w g x y z).heap[g]? = some (.cells #[x, y, z] T (0, 0))) :=
  st_same (st_same (st_same h 0 x) 1 y) 2 z
theorem be3 {a w : World} {g : Nat} (h : Below a.heap.size a w) (hg : a.heap.size ≤ g) (x y z : Value) : Below a.heap.size a (set3 w g x y z) := be_set (be_set (be_set h hg) hg) hg
theorem own3 {w : World} {base n g : Nat} {E : TypeId} {size : Nat} {A : Option Addr} {cs : List Value} (h : Own w base E size A n cs) (hg : g < base) (x y z : Value) : Own (set3 w g x y z) base E size A n cs := own_set (own_set (own_set h hg) hg) hg
theorem i64s {a b c : Int} : ∀ (j : Nat) (x : Int), (#[.int .i64 a, .int .i64 b, .int .i64 c] : Array Value)[j]? ≠ some (.int .u8 x) := by
  intro j x
  match j with
  | 0 => simp
  | 1 => simp
  | 2 => simp
  | n + 3 => simp
theorem rdr3 {w : World} {R f g : Nat} {a b c x y z : Int} {T : TypeId} (h : Rdr w R f) (hb : Hid (w.heap[g]? = some (.cells #[.int .i64 a, .int .i64 b, .int .i64 c] T (0, 0)))) (hne : g ≠ R) : Rdr (set3 w g (.int .i64 x) (.int .i64 y) (.int .i64 z)) R f :=
  rdr_other (rdr_other (rdr_other h hb i64s hne 0 _) (st_same hb 0 (.int .i64 x)) (i64s (a := x) (b := b) (c := c)) hne 1 _) (st_same (st_same hb 0 (.int .i64 x)) 1 (.int .i64 y)) (i64s (a := x) (b := y) (c := c)) hne 2 _
theorem st3 {w : World} {g : Nat} {a b c : Value} {T : TypeId} (h : Hid (w.heap[g]? = some (.cells #[a, b, c] T (0, 0)))) (x y : Value) :
    w.cell? ⟨g, 0, none⟩ = some a ∧ w.frozen? ⟨g, 0, none⟩ = false ∧ (w.setCell ⟨g, 0, none⟩ x).cell? ⟨g, 1, none⟩ = some b ∧ (w.setCell ⟨g, 0, none⟩ x).frozen? ⟨g, 1, none⟩ = false ∧ ((w.setCell ⟨g, 0, none⟩ x).setCell ⟨g, 1, none⟩ y).cell? ⟨g, 2, none⟩ = some c ∧ ((w.setCell ⟨g, 0, none⟩ x).setCell ⟨g, 1, none⟩ y).frozen? ⟨g, 2, none⟩ = false :=
  ⟨box_cell h 0, box_free h 0, box_cell (st_same h 0 x) 1, box_free (st_same h 0 x) 1, box_cell (st_same (st_same h 0 x) 1 y) 2, box_free (st_same (st_same h 0 x) 1 y) 2⟩
theorem far3 {w : World} {g g' j : Nat} {v x y z : Value} (h : w.cell? ⟨g', j, none⟩ = some v) (hne : g' ≠ g) : (set3 w g x y z).cell? ⟨g', j, none⟩ = some v := by
  have e : ∀ (W : World) (i : Nat) (u : Value), (W.setCell ⟨g, i, none⟩ u).cell? ⟨g', j, none⟩ = W.cell? ⟨g', j, none⟩ := fun W i u => World.cell?_setCell_other W ⟨g, i, none⟩ ⟨g', j, none⟩ u (by intro e; exact hne (congrArg Addr.block e).symm)
  unfold set3
  rw [e, e, e]; exact h
theorem dr_box' {R g : Nat} {w w' : World} {o : Obj} (hd : w.grownBy w' (some R)) (hne : g ≠ R) (h : Hid (w.heap[g]? = some o)) : Hid (w'.heap[g]? = some o) := dr_box h hd hne
theorem own_new {w : World} {g : Nat} (hg : w.heap.size = g) (E : TypeId) (cs : List Value) (n size : Nat) (hl : cs.length = n * size) : Own (w.alloc (.cells cs.toArray E)) g E size (some ⟨g, 0, none⟩) n cs := by
  subst hg
  exact ⟨hl, fun _ => ⟨w.heap.size, cs.toArray, rfl, Nat.le_refl _, heap_alloc_new w _, by rw [← hl]; simp⟩⟩
theorem size3 (w : World) (g : Nat) (x y z : Value) : (set3 w g x y z).heap.size = w.heap.size := by simp [set3, World.setCell]
end Go.Proofs.YthekihggedgofaaDoor
