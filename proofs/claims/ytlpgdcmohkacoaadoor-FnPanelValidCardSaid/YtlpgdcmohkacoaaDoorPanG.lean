/- The contract of l20Panel: some panel is drawn. No statement is proved here. -/
import Derived.Test.YtlpgdcmohkacoaaDoorPanF
import Derived.Deep.RegionLaw
namespace Go.Proofs.YtlpgdcmohkacoaaDoor
open Go.RowKit

/-- the panel under way: its box is the second new one, its row lies behind -/
def PSt (w : World) (R f : Nat) (A : Option Addr) (n c : Nat) (on : List Bool) (who i : Int) (tb : Bool) (left : Int) (W : World) : Prop :=
  on.length = n ∧ Hid (W.heap[w.heap.size]? = some (.cells #[.slice none 0 0, .int .i64 0, .int .i64 0, .bool false, .int .i64 0] 25 (0, 0))) ∧ Hid (W.heap[w.heap.size + 1]? = some (.cells #[.slice A n c, .int .i64 who, .int .i64 i, .bool tb, .int .i64 left] 25 (0, 0))) ∧ Hid (W.ownsRow (w.heap.size + 2) 4 1 (.slice A n c) n (bools on)) ∧ Hid (Rdr W R f) ∧ Hid (w.grownBy W (some R))
theorem row_boxP {w w' : World} {base n g : Nat} {E : TypeId} {size : Nat} {v : Value} {cs : List Value} {o : Obj} (hown : w.ownsRow base E size v n cs) (hg : w.grownBy w' v.ownBlock) (hb : g < base) (h : Hid (w.heap[g]? = some o)) : Hid (w'.heap[g]? = some o) :=
  (hg.block g (blk_lt h.out) (fun e => by have := (hown.lt g e.symm).1; omega)).trans h.out
theorem row_rdrP {w w' : World} {R f base n : Nat} {E : TypeId} {size : Nat} {v : Value} {cs : List Value} (h : Rdr w R f) (hown : w.ownsRow base E size v n cs) (hg : w.grownBy w' v.ownBlock) (hb : R < base) : Rdr w' R f :=
  h.kept hg (fun k e => Nat.lt_of_lt_of_le hb (hown.lt k e).1)
theorem row_grP {a w w' : World} {R base n : Nat} {E : TypeId} {size : Nat} {v : Value} {cs : List Value} (h : a.grownBy w (some R)) (hown : w.ownsRow base E size v n cs) (hg : w.grownBy w' v.ownBlock) (hb : a.heap.size ≤ base) : a.grownBy w' (some R) :=
  h.andThen hg (fun k e => .inl (Nat.le_trans hb (hown.lt k e).1))
theorem snoc_bools {w : World} {v : Value} {base n : Nat} {E : TypeId} {acc : List Bool} {x : Bool} (h : w.ownsRow base E 1 v (n + 1) (bools acc ++ [.bool x])) :
    ∃ B c, v = .slice B (n + 1) c ∧ w.ownsRow base E 1 (.slice B (n + 1) c) (n + 1) (bools (acc ++ [x])) := by
  rw [show bools acc ++ [.bool x] = bools (acc ++ [x]) by simp [bools]] at h
  obtain ⟨B, c, rfl, _⟩ := own_of_row h
  exact ⟨B, c, rfl, h⟩
theorem PSt.mono {w W : World} {R f n c : Nat} {A : Option Addr} {on : List Bool} {who i left : Int} {tb : Bool} {f' : Nat} (h : PSt w R f A n c on who i tb left W) (hf : f ≤ f') : PSt w R f' A n c on who i tb left W := ⟨h.1, h.2.1, h.2.2.1, h.2.2.2.1, Lib.hid (h.2.2.2.2.1.out.mono hf), h.2.2.2.2.2⟩
theorem PSt.dr {w W : World} {R f n c : Nat} {A : Option Addr} {on : List Bool} {who i left : Int} {tb : Bool} {W' : World} {f' : Nat} (h : PSt w R f A n c on who i tb left W) (hR : R < w.heap.size) (hr : Rdr W' R f') (hg : W.grownBy W' (some R)) : PSt w R f' A n c on who i tb left W' := ⟨h.1, dr_box h.2.1 hg (by omega), dr_box h.2.2.1 hg (by omega), Lib.hid (row_dr h.2.2.2.1.out hg (by omega)), Lib.hid hr, Lib.hid (h.2.2.2.2.2.out.trans hg)⟩
theorem PSt.al {w W : World} {R f n c : Nat} {A : Option Addr} {on : List Bool} {who i left : Int} {tb : Bool} (h : PSt w R f A n c on who i tb left W) (o : Obj) : PSt w R f A n c on who i tb left (W.alloc o) := ⟨h.1, al_box h.2.1 o, al_box h.2.2.1 o, Lib.hid (h.2.2.2.1.out.alloc o), Lib.hid (rdr_alloc h.2.2.2.2.1.out o), Lib.hid (gr_alloc h.2.2.2.2.2.out o)⟩
theorem PSt.drew {w W : World} {R f n c : Nat} {A : Option Addr} {on : List Bool} {who i left : Int} {tb : Bool} (h : PSt w R f A n c on who i tb left W) : PSt w R f A n c on who i tb left W.drew := ⟨h.1, h.2.1, h.2.2.1, h.2.2.2.1, h.2.2.2.2.1, Lib.hid ⟨h.2.2.2.2.2.out.os, h.2.2.2.2.2.out.tape, h.2.2.2.2.2.out.output, h.2.2.2.2.2.out.size, h.2.2.2.2.2.out.block⟩⟩
theorem PSt.set1 {w W : World} {R f n c : Nat} {A : Option Addr} {on : List Bool} {who i left : Int} {tb : Bool} (h : PSt w R f A n c on who i tb left W) (hR : R < w.heap.size) (who' : Int) : PSt w R f A n c on who' i tb left (W.setCell ⟨w.heap.size + 1, 1, none⟩ (.int .i64 who')) := ⟨h.1, st_box h.2.1 _ (by omega), st_same h.2.2.1 1 _, Lib.hid (row_setP h.2.2.2.1.out (by omega)), Lib.hid (rdr_set h.2.2.2.2.1.out 1 _ (by omega)), Lib.hid (gr_set h.2.2.2.2.2.out 1 _ (by omega))⟩
theorem PSt.set2 {w W : World} {R f n c : Nat} {A : Option Addr} {on : List Bool} {who i left : Int} {tb : Bool} (h : PSt w R f A n c on who i tb left W) (hR : R < w.heap.size) (i' : Int) : PSt w R f A n c on who i' tb left (W.setCell ⟨w.heap.size + 1, 2, none⟩ (.int .i64 i')) := ⟨h.1, st_box h.2.1 _ (by omega), st_same h.2.2.1 2 _, Lib.hid (row_setP h.2.2.2.1.out (by omega)), Lib.hid (rdr_set h.2.2.2.2.1.out 2 _ (by omega)), Lib.hid (gr_set h.2.2.2.2.2.out 2 _ (by omega))⟩
theorem PSt.set3 {w W : World} {R f n c : Nat} {A : Option Addr} {on : List Bool} {who i left : Int} {tb : Bool} (h : PSt w R f A n c on who i tb left W) (hR : R < w.heap.size) (tb' : Bool) : PSt w R f A n c on who i tb' left (W.setCell ⟨w.heap.size + 1, 3, none⟩ (.bool tb')) := ⟨h.1, st_box h.2.1 _ (by omega), st_same h.2.2.1 3 _, Lib.hid (row_setP h.2.2.2.1.out (by omega)), Lib.hid (rdr_set h.2.2.2.2.1.out 3 _ (by omega)), Lib.hid (gr_set h.2.2.2.2.2.out 3 _ (by omega))⟩
theorem PSt.set4 {w W : World} {R f n c : Nat} {A : Option Addr} {on : List Bool} {who i left : Int} {tb : Bool} (h : PSt w R f A n c on who i tb left W) (hR : R < w.heap.size) (left' : Int) : PSt w R f A n c on who i tb left' (W.setCell ⟨w.heap.size + 1, 4, none⟩ (.int .i64 left')) := ⟨h.1, st_box h.2.1 _ (by omega), st_same h.2.2.1 4 _, Lib.hid (row_setP h.2.2.2.1.out (by omega)), Lib.hid (rdr_set h.2.2.2.2.1.out 4 _ (by omega)), Lib.hid (gr_set h.2.2.2.2.2.out 4 _ (by omega))⟩
theorem PSt.set0 {w W : World} {R f n c : Nat} {A : Option Addr} {on : List Bool} {who i left : Int} {tb : Bool} {A' : Option Addr} {n' c' : Nat} {on' : List Bool} (h : PSt w R f A n c on who i tb left W) (hR : R < w.heap.size) (hn : on'.length = n') (hr : W.ownsRow (w.heap.size + 2) 4 1 (.slice A' n' c') n' (bools on')) : PSt w R f A' n' c' on' who i tb left (W.setCell ⟨w.heap.size + 1, 0, none⟩ (.slice A' n' c')) := ⟨hn, st_box h.2.1 _ (by omega), st_same h.2.2.1 0 _, Lib.hid (row_setP hr (by omega)), Lib.hid (rdr_set h.2.2.2.2.1.out 0 _ (by omega)), Lib.hid (gr_set h.2.2.2.2.2.out 0 _ (by omega))⟩
theorem PSt.row {w W : World} {R f n c : Nat} {A : Option Addr} {on : List Bool} {who i left : Int} {tb : Bool} {W' : World} {A' : Option Addr} {n' c' : Nat} {on' : List Bool} (h : PSt w R f A n c on who i tb left W) (hR : R < w.heap.size) (hg : W.grownBy W' (Value.slice A n c).ownBlock) (hn : on'.length = n') (hr : W'.ownsRow (w.heap.size + 2) 4 1 (.slice A' n' c') n' (bools on')) : PSt w R f A' n' c' on' who i tb left (W'.setCell ⟨w.heap.size + 1, 0, none⟩ (.slice A' n' c')) := ⟨hn, st_box (row_boxP h.2.2.2.1.out hg (by omega) h.2.1) _ (by omega), st_same (row_boxP h.2.2.2.1.out hg (by omega) h.2.2.1) 0 _, Lib.hid (row_setP hr (by omega)), Lib.hid (rdr_set (row_rdrP h.2.2.2.2.1.out h.2.2.2.1.out hg (by omega)) 0 _ (by omega)), Lib.hid (gr_set (row_grP h.2.2.2.2.2.out h.2.2.2.1.out hg (by omega)) 0 _ (by omega))⟩
theorem PSt.cells {w W : World} {R f n c : Nat} {A : Option Addr} {on : List Bool} {who i left : Int} {tb : Bool} (h : PSt w R f A n c on who i tb left W) : W.cell? ⟨w.heap.size + 1, 0, none⟩ = some (.slice A n c) ∧ W.cell? ⟨w.heap.size + 1, 1, none⟩ = some (.int .i64 who) ∧ W.cell? ⟨w.heap.size + 1, 2, none⟩ = some (.int .i64 i) ∧ W.cell? ⟨w.heap.size + 1, 3, none⟩ = some (.bool tb) ∧ W.cell? ⟨w.heap.size + 1, 4, none⟩ = some (.int .i64 left) := ⟨box_cell h.2.2.1 0, box_cell h.2.2.1 1, box_cell h.2.2.1 2, box_cell h.2.2.1 3, box_cell h.2.2.1 4⟩
theorem PSt.all {w W : World} {R f n c : Nat} {A : Option Addr} {on : List Bool} {who i left : Int} {tb : Bool} {A' : Option Addr} {n' c' : Nat} {on' : List Bool} {who' i' left' : Int} {tb' : Bool} (h : PSt w R f A n c on who i tb left W) (hR : R < w.heap.size) (hn : on'.length = n') (hr : W.ownsRow (w.heap.size + 2) 4 1 (.slice A' n' c') n' (bools on')) : PSt w R f A' n' c' on' who' i' tb' left' (((((W.setCell ⟨w.heap.size + 1, 0, none⟩ (.slice A' n' c')).setCell ⟨w.heap.size + 1, 1, none⟩ (.int .i64 who')).setCell ⟨w.heap.size + 1, 2, none⟩ (.int .i64 i')).setCell ⟨w.heap.size + 1, 3, none⟩ (.bool tb')).setCell ⟨w.heap.size + 1, 4, none⟩ (.int .i64 left')) := ((((h.set0 hR hn hr).set1 hR who').set2 hR i').set3 hR tb').set4 hR left'
theorem keep5 {w : World} {a b c d e : Addr} {x y z u v : Value} (h : w.cell? a = some x ∧ w.cell? b = some y ∧ w.cell? c = some z ∧ w.cell? d = some u ∧ w.cell? e = some v) (o : Obj) : (w.alloc o).cell? a = some x ∧ (w.alloc o).cell? b = some y ∧ (w.alloc o).cell? c = some z ∧ (w.alloc o).cell? d = some u ∧ (w.alloc o).cell? e = some v := ⟨keepA h.1 o, keepA h.2.1 o, keepA h.2.2.1 o, keepA h.2.2.2.1 o, keepA h.2.2.2.2 o⟩
theorem set5_cells {g : Nat} {w : World} {z0 z1 z2 z3 z4 : Value} {T : TypeId} (h : Hid (w.heap[g]? = some (.cells #[z0, z1, z2, z3, z4] T (0, 0)))) (a b c d e : Value) :
    Hid ((((((w.setCell ⟨g, 0, none⟩ a).setCell ⟨g, 1, none⟩ b).setCell ⟨g, 2, none⟩ c).setCell ⟨g, 3, none⟩ d).setCell ⟨g, 4, none⟩ e).heap[g]? = some (.cells #[a, b, c, d, e] T (0, 0))) :=
  st_same (st_same (st_same (st_same (st_same h 0 a) 1 b) 2 c) 3 d) 4 e
theorem PSt.far {w W : World} {R f n c : Nat} {A : Option Addr} {on : List Bool} {who i left : Int} {tb : Bool} {g j : Nat} {u : Value} (h : PSt w R f A n c on who i tb left W) (hR : R < w.heap.size) (hg : w.heap.size + 1 < g) (hne : ∀ k, (Value.slice A n c).ownBlock = some k → k ≠ g) : PSt w R f A n c on who i tb left (W.setCell ⟨g, j, none⟩ u) := ⟨h.1, st_box h.2.1 _ (by omega), st_box h.2.2.1 _ (by omega), Lib.hid (row_setN h.2.2.2.1.out hne), Lib.hid (rdr_set h.2.2.2.2.1.out j _ (by omega)), Lib.hid (gr_set h.2.2.2.2.2.out j _ (by omega))⟩
theorem PSt.far5 {w W : World} {R f n c : Nat} {A : Option Addr} {on : List Bool} {who i left : Int} {tb : Bool} {g : Nat} {a b c0 d e : Value} (h : PSt w R f A n c on who i tb left W) (hR : R < w.heap.size) (hg : w.heap.size + 1 < g) (hne : ∀ k, (Value.slice A n c).ownBlock = some k → k ≠ g) : PSt w R f A n c on who i tb left (((((W.setCell ⟨g, 0, none⟩ (a)).setCell ⟨g, 1, none⟩ (b)).setCell ⟨g, 2, none⟩ (c0)).setCell ⟨g, 3, none⟩ (d)).setCell ⟨g, 4, none⟩ (e)) := ((((h.far hR hg hne).far hR hg hne).far hR hg hne).far hR hg hne).far hR hg hne
theorem far5c {w : World} {g p : Nat} {x y z u v a b c0 d e : Value} (h : w.cell? ⟨p, 0, none⟩ = some (x) ∧ w.cell? ⟨p, 1, none⟩ = some (y) ∧ w.cell? ⟨p, 2, none⟩ = some (z) ∧ w.cell? ⟨p, 3, none⟩ = some (u) ∧ w.cell? ⟨p, 4, none⟩ = some (v)) (hne : p ≠ g) : (((((w.setCell ⟨g, 0, none⟩ (a)).setCell ⟨g, 1, none⟩ (b)).setCell ⟨g, 2, none⟩ (c0)).setCell ⟨g, 3, none⟩ (d)).setCell ⟨g, 4, none⟩ (e)).cell? ⟨p, 0, none⟩ = some (x) ∧ (((((w.setCell ⟨g, 0, none⟩ (a)).setCell ⟨g, 1, none⟩ (b)).setCell ⟨g, 2, none⟩ (c0)).setCell ⟨g, 3, none⟩ (d)).setCell ⟨g, 4, none⟩ (e)).cell? ⟨p, 1, none⟩ = some (y) ∧ (((((w.setCell ⟨g, 0, none⟩ (a)).setCell ⟨g, 1, none⟩ (b)).setCell ⟨g, 2, none⟩ (c0)).setCell ⟨g, 3, none⟩ (d)).setCell ⟨g, 4, none⟩ (e)).cell? ⟨p, 2, none⟩ = some (z) ∧ (((((w.setCell ⟨g, 0, none⟩ (a)).setCell ⟨g, 1, none⟩ (b)).setCell ⟨g, 2, none⟩ (c0)).setCell ⟨g, 3, none⟩ (d)).setCell ⟨g, 4, none⟩ (e)).cell? ⟨p, 3, none⟩ = some (u) ∧ (((((w.setCell ⟨g, 0, none⟩ (a)).setCell ⟨g, 1, none⟩ (b)).setCell ⟨g, 2, none⟩ (c0)).setCell ⟨g, 3, none⟩ (d)).setCell ⟨g, 4, none⟩ (e)).cell? ⟨p, 4, none⟩ = some (v) := ⟨farJ (farJ (farJ (farJ (farJ h.1 hne) hne) hne) hne) hne, farJ (farJ (farJ (farJ (farJ h.2.1 hne) hne) hne) hne) hne, farJ (farJ (farJ (farJ (farJ h.2.2.1 hne) hne) hne) hne) hne, farJ (farJ (farJ (farJ (farJ h.2.2.2.1 hne) hne) hne) hne) hne, farJ (farJ (farJ (farJ (farJ h.2.2.2.2 hne) hne) hne) hne) hne⟩
theorem row5 {w : World} {b g n c : Nat} {A : Option Addr} {xs : List Value} {base : Nat} {E : TypeId} {x y z u v : Value} (h : w.ownsRow b E 1 (.slice A n c) n xs) (hg : g < b) (hb : base ≤ b) : (((((w.setCell ⟨g, 0, none⟩ (x)).setCell ⟨g, 1, none⟩ (y)).setCell ⟨g, 2, none⟩ (z)).setCell ⟨g, 3, none⟩ (u)).setCell ⟨g, 4, none⟩ (v)).ownsRow base E 1 (.slice A n c) n xs := row_mono (row_setP (row_setP (row_setP (row_setP (row_setP h hg) hg) hg) hg) hg) hb
/-- a panel is drawn -/
def DrPan (R f : Nat) (w : World) (e : Ending) (w' : World) : Prop :=
  ∃ (on : List Bool) (who i : Int) (tb : Bool) (left : Int) (B : Option Addr) (n c : Nat), e = .returned (.agg #[.slice B n c, .int .i64 who, .int .i64 i, .bool tb, .int .i64 left]) ∧ on.length = n ∧ n ≤ 10 ∧ w'.ownsRow w.heap.size 4 1 (.slice B n c) n (bools on) ∧ Rdr w' R f ∧ w.grownBy w' (some R)
theorem PSt.nil {w W : World} {R f n c : Nat} {A : Option Addr} {on : List Bool} {who i left : Int} {tb : Bool} (h : PSt w R f A n c on who i tb left W) (hR : R < w.heap.size) :
    PSt w R f (some ⟨W.heap.size, 0, none⟩) 0 0 [] who i tb left ((W.setCell ⟨w.heap.size + 1, 0, none⟩ (.slice (some ⟨W.heap.size, 0, none⟩) 0 0)).alloc (.cells #[] 4)) := by
  refine ⟨rfl, al_box (st_box h.2.1 _ (by omega)) _, al_box (st_same h.2.2.1 0 _) _, Lib.hid ⟨by simp [bools], .inr ⟨W.heap.size, 0, #[], rfl, ?_, ?_, Nat.le_refl _, ?_, by simp, by simp [bools]⟩⟩, Lib.hid (rdr_alloc (rdr_set h.2.2.2.2.1.out 0 _ (by omega)) _), Lib.hid (gr_alloc (gr_set h.2.2.2.2.2.out 0 _ (by omega)) _)⟩
  · have := blk_lt h.2.2.1.out; omega
  · have := heap_alloc_new (W.setCell ⟨w.heap.size + 1, 0, none⟩ (.slice (some ⟨W.heap.size, 0, none⟩) 0 0)) (.cells #[] 4); simpa using this
  · first | exact Nat.zero_le _ | simp | decide
theorem panEnd {w W : World} {R f f' n c : Nat} {A : Option Addr} {on : List Bool} {who i left : Int} {tb : Bool} (h : PSt w R f A n c on who i tb left W) (hf : f ≤ f') (hR : R < w.heap.size) (hn : n ≤ 10) :
    DrPan R f' w (.returned (.agg #[.slice A n c, .int .i64 who, .int .i64 i, .bool tb, .int .i64 left])) (((((W.setCell ⟨w.heap.size, 0, none⟩ (.slice A n c)).setCell ⟨w.heap.size, 1, none⟩ (.int .i64 who)).setCell ⟨w.heap.size, 2, none⟩ (.int .i64 i)).setCell ⟨w.heap.size, 3, none⟩ (.bool tb)).setCell ⟨w.heap.size, 4, none⟩ (.int .i64 left)) :=
  ⟨on, who, i, tb, left, A, n, c, rfl, h.1, hn, row5 h.2.2.2.1.out (by omega) (by omega), rdr_set (rdr_set (rdr_set (rdr_set (rdr_set (h.2.2.2.2.1.out.mono hf) 0 _ hR) 1 _ hR) 2 _ hR) 3 _ hR) 4 _ hR,
    gr_set (gr_set (gr_set (gr_set (gr_set h.2.2.2.2.2.out 0 _ (Nat.le_refl _)) 1 _ (Nat.le_refl _)) 2 _ (Nat.le_refl _)) 3 _ (Nat.le_refl _)) 4 _ (Nat.le_refl _)⟩
set_option maxRecDepth 100000 in
set_option maxHeartbeats 8000000 in
theorem drPan (R f : Nat) (w : World) (hr : Rdr w R f) (hf : f ≤ 800000) :
    Calls Tryd.prog 8 #[.pointer (some ⟨R, 0, none⟩), .int .i64 2] w (DrPan R (f + 100) w) := by
  have HL : Hid (R < w.heap.size) := hr.lt
  have hbi : w.heap.size + 2 ≤ ((w.alloc (.cells #[.slice none 0 0, .int .i64 0, .int .i64 0, .bool false, .int .i64 0] 25)).alloc (.cells #[.slice none 0 0, .int .i64 (-1), .int .i64 0, .bool false, .int .i64 0] 25)).heap.size := by simp
  have HP : PSt w R f none 0 0 [] (-1) 0 false 0 ((w.alloc (.cells #[.slice none 0 0, .int .i64 0, .int .i64 0, .bool false, .int .i64 0] 25)).alloc (.cells #[.slice none 0 0, .int .i64 (-1), .int .i64 0, .bool false, .int .i64 0] 25)) :=
    ⟨rfl, al_box (new_box w _) _, by have := new_box (w.alloc (.cells #[.slice none 0 0, .int .i64 0, .int .i64 0, .bool false, .int .i64 0] 25)) (.cells #[.slice none 0 0, .int .i64 (-1), .int .i64 0, .bool false, .int .i64 0] 25); simpa [Hid] using this, Lib.hid ⟨by simp [bools], .inl ⟨rfl, rfl⟩⟩, Lib.hid (rdr_alloc (rdr_alloc hr _) _), Lib.hid (gr_alloc (gr_alloc (gr_refl w R) _) _)⟩
  obtain ⟨i0, hi0, hz0, hz1, hz2⟩ := info_parts info_bool
  have HI := Lib.hid (And.intro hi0 (And.intro hz0 (And.intro hz1 hz2))); clear hi0 hz0 hz1 hz2 hr hbi
  go_enter Tryd.func8, Tryd.ntmps8
  go_wp2_with fail
  refine (pickC R _ 4 _ HP.2.2.2.2.1.out (by omega) (by omega)).mono ?_
  rintro e w1 ⟨x, rfl, hx, hR, hg⟩
  have hx4 : (x : Int) ≤ 3 := by omega
  replace HP := HP.dr HL.out hR hg
  clear hR hg hx
  go_wp2_with fail
  go_loopg [6] 4 (fun kx s6 wr => ∃ (k : Nat) (A : Option Addr) (n c : Nat) (on : List Bool), s6 = .int .i64 (k : Int) ∧ k ≤ kx ∧ n + k ≤ 4 ∧ 1 ≤ n + k ∧ Hid (PSt w R (f + 10 - k) A n c on (-1) 0 false 0 wr))
  case atStart => exact ⟨1 + x, _, _, _, _, by go_num, by omega, by omega, by omega, Lib.hid (HP.mono (by omega))⟩
  case round =>
    clear HP hx4
    obtain ⟨k, A, n, c, on, rfl, hk, hn4, hn1, HP⟩ := hrel
    by_cases hlt : 0 < k
    · skip
      have hltz : (0 : Int) < (k : Int) := by omega
      have hwk : IntKind.i64.wrap ((k : Int) - 1) = (k : Int) - 1 := IntWalk.i64_in _ (by omega)
      have HPd := HP.out.drew
      have cd : wr.drew.cell? ⟨w.heap.size + 1, 0, none⟩ = some (.slice A n c) := box_cell HPd.2.2.1 0
      have HP1 := Lib.hid (pickC R _ 2 wr.drew HPd.2.2.2.2.1.out (by omega) (by omega))
      clear HP
      go_upto_region 5 with fail
      go_region_law (first | (refine step_appN _ rfl _ _ _ rfl (w.heap.size + 2) 4 i0 _ 1 1 Tryd.underlying23 HI.out rfl Nat.one_pos (.slice A n c) n (bools on) rfl HROW.out _ 1 1 [.bool v] rfl rfl RDL.out (fun e => by cases e) (by simp [Value.oneCell']) (by omega) (by omega) hWs ?_; intro v' w9 hown9 hg9; have BP9 := row_boxP HROW.out hg9 (by omega) HPa.2.2.1; have c9 := box_cell BP9 0; have f9 := box_free BP9 0; simp at c9; obtain ⟨B2, c2, rfl, hsn⟩ := snoc_bools hown9; have HP9 := PSt.row HPa HL.out hg9 (show (on ++ [v]).length = n + 1 by rw [List.length_append, HPa.1]; rfl) hsn; clear hown9 hg9 hsn BP9 HROW HPa RDL cw) | (go_simp; go_at_call 13; refine Calls.mono (by with_reducible exact HP1.out) ?_; rintro e wq ⟨y, rfl, hy, hR1, hg1⟩; have HPq := HPd.dr HL.out hR1 hg1; obtain ⟨v, e0⟩ : ∃ v : Bool, ((y : Int) == 0) = v := ⟨_, rfl⟩; have HPa := HPq.al (.cells #[.bool v] 4); have cq : wq.cell? ⟨w.heap.size + 1, 0, none⟩ = some (.slice A n c) := box_cell HPq.2.2.1 0; have cw : (wq.alloc (.cells #[.bool v] 4)).cell? ⟨w.heap.size + 1, 0, none⟩ = some (.slice A n c) := box_cell HPa.2.2.1 0; have HROW := HPa.2.2.2.1; have RDL : Hid (Rd (wq.alloc (.cells #[.bool v] 4)) (some ⟨wq.heap.size, 0, none⟩) [.bool v]) := Lib.hid (rd_new wq #[.bool v] 4); have hWs : w.heap.size + 2 ≤ (wq.alloc (.cells #[.bool v] 4)).heap.size := blk_lt HPa.2.2.1.out; clear hR1 hg1 HPq HPd hy))
      all_goals
        go_wp2_with fail
        go_roundg (k - 1)
        case measure => omega
        case rel => exact ⟨k - 1, _, _, _, _, by rw [Int.ofNat_sub (by omega)]; rfl, by omega, by omega, by omega, Lib.hid (HP9.mono (by omega))⟩
    · skip
      obtain rfl : k = 0 := by omega
      replace HP := HP.out
      have hin : panB on (-1) 0 false 0 = true := pan_clr (by rw [inB_iff, HP.1]; omega)
      replace HP := HP.mono (show f + 10 - 0 ≤ f + 10 by omega)
      go_wp2_with fail
      refine (pickC R _ 4 _ HP.2.2.2.2.1.out (by omega) (by omega)).mono ?_
      rintro e w2 ⟨x2, rfl, hx2, hR, hg⟩
      have hx4 : (x2 : Int) ≤ 3 := by omega
      replace HP := HP.dr HL.out hR hg
      have HV := Lib.hid hin
      clear hR hg hx2 hin
      go_wp2_with fail
      go_loopg [7] 3 (fun kx s7 wr => ∃ (k : Nat) (A : Option Addr) (n c : Nat) (on : List Bool) (who i : Int) (tb : Bool) (left : Int), s7 = .int .i64 (k : Int) ∧ k ≤ kx ∧ k ≤ 3 ∧ 1 ≤ n ∧ n ≤ 10 ∧ Hid (panB on who i tb left = true) ∧ Hid (PSt w R (f + 60 - 9 * k) A n c on who i tb left wr))
      case atStart => exact ⟨x2, _, _, _, _, _, _, _, _, rfl, by omega, by omega, by omega, by omega, HV, Lib.hid (HP.mono (by omega))⟩
      case round =>
        clear HP HV hx4
        obtain ⟨k, A, n, c, on, who, i, tb, left, rfl, hk, hk3, hn1, hn10, HV, HP⟩ := hrel
        by_cases hlt : 0 < k
        · skip
          have hltz : (0 : Int) < (k : Int) := by omega
          have hwk : IntKind.i64.wrap ((k : Int) - 1) = (k : Int) - 1 := IntWalk.i64_in _ (by omega)
          replace HP := HP.out
          go_upto_region 9 with fail
          go_cut [8, 9] from 28 to 40 (fun s8 s9 wx => ∃ (q n2 c2 : Nat) (B2 : Option Addr) (on2 : List Bool) (who2 i2 : Int) (tb2 : Bool) (left2 : Int) (b2 : Bool), s8 = .pointer (some ⟨q, 0, none⟩) ∧ s9 = .bool b2 ∧ w.heap.size + 1 < q ∧ n2 = n ∧ Hid (on2.length = n2) ∧ Hid (panB on2 who2 i2 tb2 left2 = true) ∧ Hid (PSt w R (f + 60 - 9 * k + 9) A n c on who i tb left wx) ∧ Hid (wx.heap[q]? = some (.cells #[.slice B2 n2 c2, .int .i64 who2, .int .i64 i2, .bool tb2, .int .i64 left2] 25 (0, 0))) ∧ Hid (wx.ownsRow (w.heap.size + 2) 4 1 (.slice B2 n2 c2) n2 (bools on2)))
          case first =>
            have hwr := blk_lt HP.2.2.1.out
            have HPd := HP.drew
            have HPe : PSt w R (f + 60 - 9 * k) A n c on who i tb left (wr.alloc (.cells #[.slice none 0 0, .int .i64 0, .int .i64 0, .bool false, .int .i64 0] 25)).drew := (HP.al (.cells #[.slice none 0 0, .int .i64 0, .int .i64 0, .bool false, .int .i64 0] 25)).drew
            have HXe : Hid ((wr.alloc (.cells #[.slice none 0 0, .int .i64 0, .int .i64 0, .bool false, .int .i64 0] 25)).drew.heap[wr.heap.size]? = some (.cells #[.slice none 0 0, .int .i64 0, .int .i64 0, .bool false, .int .i64 0] 25 (0, 0))) := new_box wr (.cells #[.slice none 0 0, .int .i64 0, .int .i64 0, .bool false, .int .i64 0] 25)
            have hRw : R < w.heap.size := HL.out
            have HNE := Lib.hid (fun k (e : (Value.slice A n c).ownBlock = some k) => (HP.2.2.2.1.out.lt k e).2)
            have hcd := HPd.cells
            have hce := HPe.cells
            have HN := Lib.hid HP.1
            have HC1 := Lib.hid (drCmd R _ (w.heap.size + 2) A n c on who i tb left wr.drew HPd.2.2.2.2.1.out (by omega) HPd.2.2.2.1.out (by omega) HN.out hn1 (by omega))
            have HC2 := Lib.hid (drCmd R _ (w.heap.size + 2) A n c on who i tb left (wr.alloc (.cells #[.slice none 0 0, .int .i64 0, .int .i64 0, .bool false, .int .i64 0] 25)).drew HPe.2.2.2.2.1.out (by omega) HPe.2.2.2.1.out (by omega) HN.out hn1 (by omega))
            clear HP
            go_region_held3 (fun W => W.cell? ⟨w.heap.size + 1, 0, none⟩ = some (.slice A n c) ∧ W.cell? ⟨w.heap.size + 1, 1, none⟩ = some (.int .i64 who) ∧ W.cell? ⟨w.heap.size + 1, 2, none⟩ = some (.int .i64 i) ∧ W.cell? ⟨w.heap.size + 1, 3, none⟩ = some (.bool tb) ∧ W.cell? ⟨w.heap.size + 1, 4, none⟩ = some (.int .i64 left)) (first | (with_reducible exact hcd) | (with_reducible exact hce) | (with_reducible exact cS) | (with_reducible exact cT) | (with_reducible exact keep5 (by assumption) _) | (with_reducible exact far5c (by assumption) (by omega)) | go_keep) (first | (go_at_call 15; refine Calls.mono (by with_reducible exact HC2.out) ?_; rintro e v ⟨kk, xx, yy, bb, rfl, hRv, hgv⟩; have HPv := HPe.dr HL.out hRv hgv; have cS := HPv.cells; have hv := blk_lt HPv.2.2.1.out; have hvz : wr.heap.size ≤ v.heap.size := (by have hz := hgv.size; first | exact hz | exact Nat.le_trans (by simp) hz); have BX := dr_box HXe hgv (by omega); have hwq := hwr; have hgq : wr.heap.size < v.heap.size := Nat.lt_of_lt_of_le (by simp) hgv.size; have HD1 := Lib.hid (doP A n c on who i tb left kk xx yy bb (v) HN.out (by omega) (row_none HPv.2.2.2.1.out) (rd_of_row HPv.2.2.2.1.out) HV.out); have HPx := HPv.al (.cells #[.slice none 0 0, .int .i64 0, .int .i64 0, .bool false, .int .i64 0] 25); have HD2 := Lib.hid (doP A n c on who i tb left kk xx yy bb (v.alloc (.cells #[.slice none 0 0, .int .i64 0, .int .i64 0, .bool false, .int .i64 0] 25)) HN.out (by omega) (row_none HPx.2.2.2.1.out) (rd_of_row HPx.2.2.2.1.out) HV.out); clear hRv hgv HC1 HC2 HPd HPe HXe) | (go_at_call 15; refine Calls.mono (by with_reducible exact HC1.out) ?_; rintro e v ⟨kk, xx, yy, bb, rfl, hRv, hgv⟩; have HPv := HPd.dr HL.out hRv hgv; have cS := HPv.cells; have hv := blk_lt HPv.2.2.1.out; have hvz : wr.heap.size ≤ v.heap.size := (by have hz := hgv.size; first | exact hz | exact Nat.le_trans (by simp) hz); skip; have HD1 := Lib.hid (doP A n c on who i tb left kk xx yy bb (v) HN.out (by omega) (row_none HPv.2.2.2.1.out) (rd_of_row HPv.2.2.2.1.out) HV.out); have HPx := HPv.al (.cells #[.slice none 0 0, .int .i64 0, .int .i64 0, .bool false, .int .i64 0] 25); have HD2 := Lib.hid (doP A n c on who i tb left kk xx yy bb (v.alloc (.cells #[.slice none 0 0, .int .i64 0, .int .i64 0, .bool false, .int .i64 0] 25)) HN.out (by omega) (row_none HPx.2.2.2.1.out) (rd_of_row HPx.2.2.2.1.out) HV.out); clear hRv hgv HC1 HC2 HPd HPe HXe) | (go_at_call 14; have BX' := BX; clear BX; refine Calls.mono (by with_reducible exact HD1.out) ?_; rintro e v2 ⟨on2, who2, i2, tb2, left2, B2, c2, b2, rfl, hn2, hv2, hrow2, hb2⟩; have HPy := PSt.dr (f' := f + 60 - 9 * k + 9) HPv HL.out (Rdr.below HPv.2.2.2.2.1.out hb2) (grown_of_below hb2); have cT := HPy.cells; have hyz := blk_lt HPy.2.2.1.out; have HN2 := Lib.hid hn2; have HV2 := Lib.hid hv2; have HR2 := Lib.hid hrow2; have BY := be_box BX' hb2; clear BX'; have k0 := box_cell BY 0; have k1 := box_cell BY 1; have k2 := box_cell BY 2; have k3 := box_cell BY 3; have k4 := box_cell BY 4; have y0 := box_free BY 0; have y1 := box_free BY 1; have y2 := box_free BY 2; have y3 := box_free BY 3; have y4 := box_free BY 4; simp at k0 k1 k2 k3 k4; have HPq := Lib.hid (HPy.far5 HL.out hwq (fun k e => by have := HNE.out k e; omega) (a := .slice B2 n c2) (b := .int .i64 who2) (c0 := .int .i64 i2) (d := .bool tb2) (e := .int .i64 left2)); have HBq := set5_cells BY (.slice B2 n c2) (.int .i64 who2) (.int .i64 i2) (.bool tb2) (.int .i64 left2); have HRq := Lib.hid (row5 (x := .slice B2 n c2) (y := .int .i64 who2) (z := .int .i64 i2) (u := .bool tb2) (v := .int .i64 left2) (base := w.heap.size + 2) HR2.out hgq (by omega)); clear HPy HR2 BY; clear HD1 HD2 hn2 hv2 hrow2 hb2 HPv HPx cS) | (go_at_call 14; refine Calls.mono (by with_reducible exact HD2.out) ?_; rintro e v2 ⟨on2, who2, i2, tb2, left2, B2, c2, b2, rfl, hn2, hv2, hrow2, hb2⟩; have HPy := PSt.dr (f' := f + 60 - 9 * k + 9) HPx HL.out (Rdr.below HPx.2.2.2.2.1.out hb2) (grown_of_below hb2); have cT := HPy.cells; have hyz := blk_lt HPy.2.2.1.out; have HN2 := Lib.hid hn2; have HV2 := Lib.hid hv2; have HR2 := Lib.hid hrow2; have hwq := hv; have BY := be_box (new_box v (.cells #[.slice none 0 0, .int .i64 0, .int .i64 0, .bool false, .int .i64 0] 25)) hb2; have k0 := box_cell BY 0; have k1 := box_cell BY 1; have k2 := box_cell BY 2; have k3 := box_cell BY 3; have k4 := box_cell BY 4; have y0 := box_free BY 0; have y1 := box_free BY 1; have y2 := box_free BY 2; have y3 := box_free BY 3; have y4 := box_free BY 4; simp at k0 k1 k2 k3 k4; have HPq := Lib.hid (HPy.far5 HL.out hwq (fun k e => by have := HNE.out k e; omega) (a := .slice B2 n c2) (b := .int .i64 who2) (c0 := .int .i64 i2) (d := .bool tb2) (e := .int .i64 left2)); have HBq := set5_cells BY (.slice B2 n c2) (.int .i64 who2) (.int .i64 i2) (.bool tb2) (.int .i64 left2); have HRq := Lib.hid (row5 (x := .slice B2 n c2) (y := .int .i64 who2) (z := .int .i64 i2) (u := .bool tb2) (v := .int .i64 left2) (base := w.heap.size + 2) HR2.out (show v.heap.size < (v.alloc (.cells #[.slice none 0 0, .int .i64 0, .int .i64 0, .bool false, .int .i64 0] 25)).heap.size by simp) (show w.heap.size + 2 ≤ (v.alloc (.cells #[.slice none 0 0, .int .i64 0, .int .i64 0, .bool false, .int .i64 0] 25)).heap.size by simp; omega)); clear HPy HR2 BY; clear HD1 HD2 hn2 hv2 hrow2 hb2 HPv HPx cS) | (go_at_call 14; refine Calls.mono (by with_reducible exact HD1.out) ?_; rintro e v2 ⟨on2, who2, i2, tb2, left2, B2, c2, b2, rfl, hn2, hv2, hrow2, hb2⟩; have HPy := PSt.dr (f' := f + 60 - 9 * k + 9) HPv HL.out (Rdr.below HPv.2.2.2.2.1.out hb2) (grown_of_below hb2); have cT := HPy.cells; have hyz := blk_lt HPy.2.2.1.out; have HN2 := Lib.hid hn2; have HV2 := Lib.hid hv2; have HR2 := Lib.hid hrow2; have hwq := hyz; have HPq := Lib.hid (HPy.al (.cells #[.slice B2 n c2, .int .i64 who2, .int .i64 i2, .bool tb2, .int .i64 left2] 25)); have HBq := new_box v2 (.cells #[.slice B2 n c2, .int .i64 who2, .int .i64 i2, .bool tb2, .int .i64 left2] 25); have HRq := Lib.hid (row_mono (HR2.out.alloc (.cells #[.slice B2 n c2, .int .i64 who2, .int .i64 i2, .bool tb2, .int .i64 left2] 25)) (show w.heap.size + 2 ≤ v.heap.size by omega)); clear HPy HR2; clear HD1 HD2 hn2 hv2 hrow2 hb2 HPv HPx cS))
            all_goals
              go_wp2_with fail
              go_meet
              case rel => with_reducible exact ⟨_, _, _, _, _, _, _, _, _, _, rfl, rfl, hwq, rfl, HN2, HV2, HPq, HBq, HRq⟩
          case rest =>
            obtain ⟨q, n2, c2, B2, on2, who2, i2, tb2, left2, b2, rfl, rfl, hq, rfl, HN2, HV2, HP, HX, HR2⟩ := hcut
            have hRw := HL.out
            replace HP := HP.out
            have HPz := HP.all HL.out HN2.out HR2.out (who' := who2) (i' := i2) (tb' := tb2) (left' := left2)
            have hn2 : 1 ≤ n2 ∧ n2 ≤ 10 := ⟨hn1, hn10⟩
            have k0 := box_cell HP.2.2.1 0; have y0 := box_free HP.2.2.1 0; have x0 := box_cell HX 0; simp at k0 x0
            have k1 := box_cell HP.2.2.1 1; have y1 := box_free HP.2.2.1 1; have x1 := box_cell HX 1; simp at k1 x1
            have k2 := box_cell HP.2.2.1 2; have y2 := box_free HP.2.2.1 2; have x2 := box_cell HX 2; simp at k2 x2
            have k3 := box_cell HP.2.2.1 3; have y3 := box_free HP.2.2.1 3; have x3 := box_cell HX 3; simp at k3 x3
            have k4 := box_cell HP.2.2.1 4; have y4 := box_free HP.2.2.1 4; have x4 := box_cell HX 4; simp at k4 x4
            clear HR2 HX HP hn1 hn10
            go_wp2_with fail
            go_roundg (k - 1)
            case measure => omega
            case rel => exact ⟨k - 1, _, _, _, _, _, _, _, _, by rw [Int.ofNat_sub (by omega)]; rfl, by omega, by omega, hn2.1, hn2.2, HV2, Lib.hid (HPz.mono (by omega))⟩
        · skip
          obtain rfl : k = 0 := by omega
          replace HP := HP.out
          replace HP := HP.mono (show f + 60 - 9 * 0 ≤ f + 60 by omega)
          go_wp2_with fail
          refine (oddC R _ 2 _ HP.2.2.2.2.1.out (by omega) (by omega) (by omega)).mono ?_
          rintro e w3 ⟨bb, rfl, hR, hg⟩
          replace HP := HP.dr HL.out hR hg
          clear hR hg HV hk hk3 hlt
          go_upto_if 43 with (fail)
          go_cut [] from 44 (fun wx => ∃ (A : Option Addr) (n c : Nat) (on : List Bool) (who i : Int) (tb : Bool) (left : Int), n ≤ 10 ∧ Hid (PSt w R (f + 70) A n c on who i tb left wx))
          case first =>
            cases bb with
            | false =>
              go_wp2_with fail
              go_meet
              case rel => exact ⟨_, _, _, _, _, _, _, _, hn10, Lib.hid (HP.mono (by omega))⟩
            | true =>
              go_wp2_with fail
              refine (pickC R _ 4 _ HP.2.2.2.2.1.out (by omega) (by omega)).mono ?_
              rintro e w4 ⟨y, rfl, hy, hR, hg⟩
              replace HP := HP.dr HL.out hR hg
              have hsz := blk_lt HP.2.2.1.out
              clear hR hg
              obtain rfl | rfl | rfl | rfl : y = 0 ∨ y = 1 ∨ y = 2 ∨ y = 3 := by omega
              · clear hy
                have k0 := box_cell HP.2.2.1 0; have y0 := box_free HP.2.2.1 0; simp at k0
                go_wp2_with fail
                go_meet
                case rel => exact ⟨_, _, _, _, _, _, _, _, by omega, Lib.hid ((HP.nil HL.out).mono (by omega))⟩
              · clear hy
                have k0 := box_cell HP.2.2.1 4; have y0 := box_free HP.2.2.1 4; simp at k0
                go_wp2_with fail
                go_meet
                case rel => exact ⟨_, _, _, _, _, _, _, _, hn10, Lib.hid ((HP.set4 HL.out 4).mono (by omega))⟩
              · clear hy
                have HPa := HP.al (.cells #[.int .i64 (-2), .int .i64 10] 3)
                have L0 := new_box w4 (.cells #[.int .i64 (-2), .int .i64 10] 3)
                clear HP
                go_wp2_with fail
                refine (pickC R _ 2 _ HPa.2.2.2.2.1.out (by omega) (by omega)).mono ?_
                rintro e w5 ⟨y, rfl, hy, hR, hg⟩
                have hRw := HL.out
                replace HPa := HPa.dr HL.out hR hg
                have hy2 : (y : Int) < 2 := by omega
                obtain ⟨v, hv⟩ := lit2 (dr_box L0 hg (by omega)) (show y < 2 by omega)
                have k1 := box_cell HPa.2.2.1 1; have y1 := box_free HPa.2.2.1 1; simp at k1
                go_wp2_with fail
                go_meet
                case rel => exact ⟨_, _, _, _, _, _, _, _, hn10, Lib.hid ((HPa.set1 HL.out v).mono (by omega))⟩
              · clear hy
                obtain ⟨ga, rfl, hga⟩ := row_addr HP.2.2.2.1.out (by omega)
                have HP2 := (HP.set1 HL.out 1).set2 HL.out 0
                obtain ⟨ba, oa, e9, _, h9⟩ := (rd_of_row HP2.2.2.2.1.out).bool (k := 0) (by rw [HP2.1]; omega)
                cases e9
                rw [Nat.zero_add] at h9
                generalize on.getD 0 false = v9 at h9
                have HP4 := (HP2.set3 HL.out v9).set4 HL.out 1
                have k0 := box_cell HP.2.2.1 0; have y0 := box_free HP.2.2.1 0; simp at k0
                have k1 := box_cell HP.2.2.1 1; have y1 := box_free HP.2.2.1 1; simp at k1
                have k2 := box_cell HP.2.2.1 2; have y2 := box_free HP.2.2.1 2; simp at k2
                have k3 := box_cell HP.2.2.1 3; have y3 := box_free HP.2.2.1 3; simp at k3
                have k4 := box_cell HP.2.2.1 4; have y4 := box_free HP.2.2.1 4; simp at k4
                have q0 : ((w4.setCell ⟨w.heap.size + 1, 1, none⟩ (.int .i64 1)).setCell ⟨w.heap.size + 1, 2, none⟩ (.int .i64 0)).cell? ⟨w.heap.size + 1, 0, none⟩ = some (.slice (some ⟨ga, 0, none⟩) n c) := box_cell HP2.2.2.1 0
                have hnz : (0 : Int) < (n : Int) := by omega
                go_wp2_with fail
                go_meet
                case rel => exact ⟨_, _, _, _, _, _, _, _, hn10, Lib.hid (HP4.mono (by omega))⟩
          case rest =>
            obtain ⟨A, n, c, on, who, i, tb, left, hn10, HP⟩ := hcut
            replace HP := HP.out
            have c0 := box_cell HP.2.2.1 0; have k0 := box_cell HP.2.1 0; have y0 := box_free HP.2.1 0; simp at c0 k0
            have c1 := box_cell HP.2.2.1 1; have k1 := box_cell HP.2.1 1; have y1 := box_free HP.2.1 1; simp at c1 k1
            have c2 := box_cell HP.2.2.1 2; have k2 := box_cell HP.2.1 2; have y2 := box_free HP.2.1 2; simp at c2 k2
            have c3 := box_cell HP.2.2.1 3; have k3 := box_cell HP.2.1 3; have y3 := box_free HP.2.1 3; simp at c3 k3
            have c4 := box_cell HP.2.2.1 4; have k4 := box_cell HP.2.1 4; have y4 := box_free HP.2.1 4; simp at c4 k4
            have HZ := set5_cells HP.2.1 (.slice A n c) (.int .i64 who) (.int .i64 i) (.bool tb) (.int .i64 left)
            have z0 := box_cell HZ 0; simp at z0
            have z1 := box_cell HZ 1; simp at z1
            have z2 := box_cell HZ 2; simp at z2
            have z3 := box_cell HZ 3; simp at z3
            have z4 := box_cell HZ 4; simp at z4
            go_wp2_with fail
            exact bodyPost_ret (v := .agg #[.slice A n c, .int .i64 who, .int .i64 i, .bool tb, .int .i64 left]) (by simp [results, Tryd.results8, go_sem, z0, z1, z2, z3, z4]) rfl (panEnd HP (by omega) HL.out hn10)
end Go.Proofs.YtlpgdcmohkacoaaDoor
