/- Contracts of the functions that draw entries. No statement is proved here. -/
import Derived.Test.YtdlphgknplomkaaDoorDrG
import Derived.Test.YtdlphgknplomkaaDoorDrH
import Derived.Deep.RegionLaw
namespace Go.Proofs.YtdlphgknplomkaaDoor
open Go.RowKit
abbrev set4 (w : World) (g : Nat) (x y z u : Value) : World := (((w.setCell ⟨g, 0, none⟩ x).setCell ⟨g, 1, none⟩ y).setCell ⟨g, 2, none⟩ z).setCell ⟨g, 3, none⟩ u
theorem box4 {w : World} {g : Nat} {a b c d : Value} {T : TypeId} (h : Hid (w.heap[g]? = some (.cells #[a, b, c, d] T (0, 0)))) (x y z u : Value) : Hid ((set4 w g x y z u).heap[g]? = some (.cells #[x, y, z, u] T (0, 0))) :=
  st_same (st_same (st_same (st_same h 0 x) 1 y) 2 z) 3 u
theorem be4 {a w : World} {g : Nat} (h : Below a.heap.size a w) (hg : a.heap.size ≤ g) (x y z u : Value) : Below a.heap.size a (set4 w g x y z u) := be_set (be_set (be_set (be_set h hg) hg) hg) hg
theorem st4 {w : World} {g : Nat} {a b c d : Value} {T : TypeId} (h : Hid (w.heap[g]? = some (.cells #[a, b, c, d] T (0, 0)))) (x y z : Value) :
    w.cell? ⟨g, 0, none⟩ = some a ∧ w.frozen? ⟨g, 0, none⟩ = false ∧ (w.setCell ⟨g, 0, none⟩ x).cell? ⟨g, 1, none⟩ = some b ∧ (w.setCell ⟨g, 0, none⟩ x).frozen? ⟨g, 1, none⟩ = false ∧ ((w.setCell ⟨g, 0, none⟩ x).setCell ⟨g, 1, none⟩ y).cell? ⟨g, 2, none⟩ = some c ∧ ((w.setCell ⟨g, 0, none⟩ x).setCell ⟨g, 1, none⟩ y).frozen? ⟨g, 2, none⟩ = false ∧ (((w.setCell ⟨g, 0, none⟩ x).setCell ⟨g, 1, none⟩ y).setCell ⟨g, 2, none⟩ z).cell? ⟨g, 3, none⟩ = some d ∧ (((w.setCell ⟨g, 0, none⟩ x).setCell ⟨g, 1, none⟩ y).setCell ⟨g, 2, none⟩ z).frozen? ⟨g, 3, none⟩ = false :=
  ⟨box_cell h 0, box_free h 0, box_cell (st_same h 0 x) 1, box_free (st_same h 0 x) 1, box_cell (st_same (st_same h 0 x) 1 y) 2, box_free (st_same (st_same h 0 x) 1 y) 2, box_cell (st_same (st_same (st_same h 0 x) 1 y) 2 z) 3, box_free (st_same (st_same (st_same h 0 x) 1 y) 2 z) 3⟩
theorem far4 {w : World} {g g' j : Nat} {v x y z u : Value} (h : w.cell? ⟨g', j, none⟩ = some v) (hne : g' ≠ g) : (set4 w g x y z u).cell? ⟨g', j, none⟩ = some v := by
  have e : ∀ (W : World) (i : Nat) (u : Value), (W.setCell ⟨g, i, none⟩ u).cell? ⟨g', j, none⟩ = W.cell? ⟨g', j, none⟩ := fun W i u => World.cell?_setCell_other W ⟨g, i, none⟩ ⟨g', j, none⟩ u (by intro e; exact hne (congrArg Addr.block e).symm)
  unfold set4
  rw [e, e, e, e]; exact h
theorem fbox4 {w : World} {g g' : Nat} {o : Obj} (h : Hid (w.heap[g']? = some o)) (hne : g' ≠ g) (x y z u : Value) : Hid ((set4 w g x y z u).heap[g']? = some o) := st_box (st_box (st_box (st_box h x hne) y hne) z hne) u hne
theorem other_cell {g h : Nat} (hne : h ≠ g) : ∀ (W : World) (j k : Nat) (u : Value), (W.setCell ⟨g, j, none⟩ u).cell? ⟨h, k, none⟩ = W.cell? ⟨h, k, none⟩ := fun W j k u => World.cell?_setCell_other W ⟨g, j, none⟩ ⟨h, k, none⟩ u (by intro e; exact hne (congrArg Addr.block e).symm)
theorem same_cell {g i j : Nat} (hne : j ≠ i) : ∀ (W : World) (u : Value), (W.setCell ⟨g, i, none⟩ u).cell? ⟨g, j, none⟩ = W.cell? ⟨g, j, none⟩ := fun W u => World.cell?_setCell_other W ⟨g, i, none⟩ ⟨g, j, none⟩ u (by intro e; exact hne (congrArg Addr.off e).symm)
def DEE (w : World) (e : Ending) (w' : World) : Prop := ∃ a0 a1 a2 a3 b0 b1 b2 b3 : Int, e = .returned (.tuple #[.agg #[.int .i64 a0, .int .i64 a1, .int .i64 a2, .int .i64 a3], .agg #[.int .i64 b0, .int .i64 b1, .int .i64 b2, .int .i64 b3]]) ∧ Below w.heap.size w w'
set_option maxHeartbeats 4000000 in
theorem dDrawEntryLess (A : Option Addr) (m c : Nat) (w : World) (hc : m ≤ c) (hm : m ≤ 1048576) (hA : RdB w A m) : Calls Tryd.prog 25 #[.slice A m c] w (DEE w) := by
  have HB := Lib.hid hA; clear hA
  have HG := Lib.hid (Below.refl w.heap.size w)
  go_enter Tryd.func25, Tryd.ntmps25
  have B_q := new_box w (.cells #[.int .i64 0, .int .i64 0, .int .i64 0, .int .i64 0] 25)
  have Z_q : w.heap.size ≤ w.heap.size := by have := HG.out.size; first | omega | (simp at this; omega) | (simp at this ⊢; omega)
  replace HG := Lib.hid (allocB HG.out (.cells #[.int .i64 0, .int .i64 0, .int .i64 0, .int .i64 0] 25))
  have M0_q := blk_lt B_q.out
  replace M0_q : w.heap.size < (w.heap.size + 1) := Nat.lt_succ_self _
  replace B_q := al_box B_q (.cells #[.int .i64 0, .int .i64 0, .int .i64 0, .int .i64 0] 25)
  have B_r := new_box (w.alloc (.cells #[.int .i64 0, .int .i64 0, .int .i64 0, .int .i64 0] 25)) (.cells #[.int .i64 0, .int .i64 0, .int .i64 0, .int .i64 0] 25)
  replace B_r : Hid (((w.alloc (.cells #[.int .i64 0, .int .i64 0, .int .i64 0, .int .i64 0] 25)).alloc (.cells #[.int .i64 0, .int .i64 0, .int .i64 0, .int .i64 0] 25)).heap[(w.heap.size + 1)]? = some (.cells #[.int .i64 0, .int .i64 0, .int .i64 0, .int .i64 0] 25 (0, 0))) := by have := B_r.out; rw [Hid]; simpa using this
  have Z_r : w.heap.size ≤ (w.heap.size + 1) := by have := HG.out.size; first | omega | (simp at this; omega) | (simp at this ⊢; omega)
  have M_q_r : w.heap.size < (w.heap.size + 1) := M0_q
  replace HG := Lib.hid (allocB HG.out (.cells #[.int .i64 0, .int .i64 0, .int .i64 0, .int .i64 0] 25))
  go_wp2_with fail
  refine (openC _ _ _ _ hc hm (rdb_below HB.out HG.out)).mono ?_
  rintro e w1 ⟨rfl, hR, hbn⟩
  have NR_q := blk_lt B_q.out
  replace B_q := be_box B_q hbn
  have NR_r := blk_lt B_r.out
  replace B_r := be_box B_r hbn
  have hRe0 := HG.out.size
  replace HG := Lib.hid (seqB HG.out hbn)
  have HR := Lib.hid hR
  clear hbn hR HB
  obtain ⟨R, hRe⟩ : ∃ R, R = ((w.alloc (.cells #[.int .i64 0, .int .i64 0, .int .i64 0, .int .i64 0] 25)).alloc (.cells #[.int .i64 0, .int .i64 0, .int .i64 0, .int .i64 0] 25)).heap.size := ⟨_, rfl⟩
  have HRw : w.heap.size ≤ R := by rw [hRe]; exact hRe0
  rw [← hRe] at HR NR_q NR_r ⊢
  clear hRe hRe0
  go_wp2_with fail
  refine (drEntry R 0 _ HR.out (by omega)).mono ?_
  rintro e w2 ⟨a0, a1, a2, a3, rfl, hR, hg⟩
  replace B_q := dr_box B_q hg (by omega)
  replace B_r := dr_box B_r hg (by omega)
  replace HR := Lib.hid hR
  replace HG := Lib.hid (gr_below HG.out hg HRw)
  clear hR hg
  clear M0_q
  have M0_q := blk_lt B_q.out
  have M0_r := blk_lt B_r.out
  replace B_q := al_box B_q (.cells #[.int .i64 a0, .int .i64 a1, .int .i64 a2, .int .i64 a3] 25)
  replace B_r := al_box B_r (.cells #[.int .i64 a0, .int .i64 a1, .int .i64 a2, .int .i64 a3] 25)
  have HRl := HR.out.lt
  replace HR := Lib.hid (rdr_alloc HR.out (.cells #[.int .i64 a0, .int .i64 a1, .int .i64 a2, .int .i64 a3] 25))
  have B_a := new_box w2 (.cells #[.int .i64 a0, .int .i64 a1, .int .i64 a2, .int .i64 a3] 25)
  have Z_a : w.heap.size ≤ w2.heap.size := by have := HG.out.size; first | omega | (simp at this; omega) | (simp at this ⊢; omega)
  have N_a : R < w2.heap.size := HRl
  have M_q_a : w.heap.size < w2.heap.size := M0_q
  have M_r_a : (w.heap.size + 1) < w2.heap.size := M0_r
  replace HG := Lib.hid (allocB HG.out (.cells #[.int .i64 a0, .int .i64 a1, .int .i64 a2, .int .i64 a3] 25))
  go_wp2_with fail
  refine (drEntry R _ _ HR.out (by omega)).mono ?_
  rintro e w3 ⟨b0, b1, b2, b3, rfl, hR, hg⟩
  replace B_q := dr_box B_q hg (by omega)
  replace B_r := dr_box B_r hg (by omega)
  replace B_a := dr_box B_a hg (by omega)
  replace HR := Lib.hid hR
  replace HG := Lib.hid (gr_below HG.out hg HRw)
  clear hR hg
  clear M0_q M0_r
  have M0_q := blk_lt B_q.out
  have M0_r := blk_lt B_r.out
  have M0_a := blk_lt B_a.out
  replace B_q := al_box B_q (.cells #[.int .i64 b0, .int .i64 b1, .int .i64 b2, .int .i64 b3] 25)
  replace B_r := al_box B_r (.cells #[.int .i64 b0, .int .i64 b1, .int .i64 b2, .int .i64 b3] 25)
  replace B_a := al_box B_a (.cells #[.int .i64 b0, .int .i64 b1, .int .i64 b2, .int .i64 b3] 25)
  have HRl := HR.out.lt
  replace HR := Lib.hid (rdr_alloc HR.out (.cells #[.int .i64 b0, .int .i64 b1, .int .i64 b2, .int .i64 b3] 25))
  have B_b := new_box w3 (.cells #[.int .i64 b0, .int .i64 b1, .int .i64 b2, .int .i64 b3] 25)
  have Z_b : w.heap.size ≤ w3.heap.size := by have := HG.out.size; first | omega | (simp at this; omega) | (simp at this ⊢; omega)
  have N_b : R < w3.heap.size := HRl
  have M_q_b : w.heap.size < w3.heap.size := M0_q
  have M_r_b : (w.heap.size + 1) < w3.heap.size := M0_r
  have M_a_b : w2.heap.size < w3.heap.size := M0_a
  replace HG := Lib.hid (allocB HG.out (.cells #[.int .i64 b0, .int .i64 b1, .int .i64 b2, .int .i64 b3] 25))
  go_wp2_with fail
  refine (pickC R _ 3 _ HR.out (by omega) (by omega)).mono ?_
  rintro e w4 ⟨p, rfl, hx_p, hR, hg⟩
  replace B_q := dr_box B_q hg (by omega)
  replace B_r := dr_box B_r hg (by omega)
  replace B_a := dr_box B_a hg (by omega)
  replace B_b := dr_box B_b hg (by omega)
  replace HR := Lib.hid hR
  replace HG := Lib.hid (gr_below HG.out hg HRw)
  clear hR hg
  clear M0_q M0_r M0_a
  cases e0 : ((p : Int) == 0) with
  | true =>
    have c_a_0 : w4.cell? ⟨w2.heap.size, 0, none⟩ = some (.int .i64 a0) := box_cell B_a 0
    have c_a_1 : w4.cell? ⟨w2.heap.size, 1, none⟩ = some (.int .i64 a1) := box_cell B_a 1
    have k_b_5 : w4.cell? ⟨w3.heap.size, 0, none⟩ = some (.int .i64 b0) := box_cell B_b 0
    have y_b_5 : w4.frozen? ⟨w3.heap.size, 0, none⟩ = false := box_free B_b 0
    replace B_q := st_box (g' := w3.heap.size) (j := 0) B_q (.int .i64 a0) (by omega)
    replace B_r := st_box (g' := w3.heap.size) (j := 0) B_r (.int .i64 a0) (by omega)
    replace B_a := st_box (g' := w3.heap.size) (j := 0) B_a (.int .i64 a0) (by omega)
    replace B_b := st_same B_b 0 (.int .i64 a0)
    replace HR := Lib.hid (rdr_set HR.out 0 (.int .i64 a0) N_b)
    replace HG := Lib.hid (be_set (g := w3.heap.size) (j := 0) (u := .int .i64 a0) HG.out  Z_b)
    replace B_b : Hid ((w4.setCell ⟨w3.heap.size, 0, none⟩ (.int .i64 a0)).heap[w3.heap.size]? = some (.cells #[.int .i64 a0, .int .i64 b1, .int .i64 b2, .int .i64 b3] 25 (0, 0))) := B_b
    have k_b_6 : (w4.setCell ⟨w3.heap.size, 0, none⟩ (.int .i64 a0)).cell? ⟨w3.heap.size, 1, none⟩ = some (.int .i64 b1) := box_cell B_b 1
    have y_b_6 : (w4.setCell ⟨w3.heap.size, 0, none⟩ (.int .i64 a0)).frozen? ⟨w3.heap.size, 1, none⟩ = false := box_free B_b 1
    replace B_q := st_box (g' := w3.heap.size) (j := 1) B_q (.int .i64 a1) (by omega)
    replace B_r := st_box (g' := w3.heap.size) (j := 1) B_r (.int .i64 a1) (by omega)
    replace B_a := st_box (g' := w3.heap.size) (j := 1) B_a (.int .i64 a1) (by omega)
    replace B_b := st_same B_b 1 (.int .i64 a1)
    replace HR := Lib.hid (rdr_set HR.out 1 (.int .i64 a1) N_b)
    replace HG := Lib.hid (be_set (g := w3.heap.size) (j := 1) (u := .int .i64 a1) HG.out  Z_b)
    replace B_b : Hid (((w4.setCell ⟨w3.heap.size, 0, none⟩ (.int .i64 a0)).setCell ⟨w3.heap.size, 1, none⟩ (.int .i64 a1)).heap[w3.heap.size]? = some (.cells #[.int .i64 a0, .int .i64 a1, .int .i64 b2, .int .i64 b3] 25 (0, 0))) := B_b
    go_wp2_with fail
    clear c_a_0 c_a_1 k_b_5 y_b_5 k_b_6 y_b_6
    generalize ((w4.setCell ⟨w3.heap.size, 0, none⟩ (.int .i64 a0)).setCell ⟨w3.heap.size, 1, none⟩ (.int .i64 a1)) = wz at *
    have BR2 := fbox4 B_r (by omega : (w.heap.size + 1) ≠ w.heap.size) (.int .i64 a0) (.int .i64 a1) (.int .i64 a2) (.int .i64 a3)
    have BQ2 := fbox4 B_q (by omega : w.heap.size ≠ (w.heap.size + 1)) (.int .i64 a0) (.int .i64 a1) (.int .i64 b2) (.int .i64 b3)
    have BR3 := box4 BR2 (.int .i64 a0) (.int .i64 a1) (.int .i64 b2) (.int .i64 b3)
    have BQ3 := fbox4 (box4 B_q (.int .i64 a0) (.int .i64 a1) (.int .i64 a2) (.int .i64 a3)) (by omega : w.heap.size ≠ (w.heap.size + 1)) (.int .i64 a0) (.int .i64 a1) (.int .i64 b2) (.int .i64 b3)
    have BQ4 := box4 BQ2 (.int .i64 a0) (.int .i64 a1) (.int .i64 a2) (.int .i64 a3)
    have BR4 := fbox4 (box4 B_r (.int .i64 a0) (.int .i64 a1) (.int .i64 b2) (.int .i64 b3)) (by omega : (w.heap.size + 1) ≠ w.heap.size) (.int .i64 a0) (.int .i64 a1) (.int .i64 a2) (.int .i64 a3)
    have HE1 := Lib.hid (be4 (be4 HG.out Z_q (.int .i64 a0) (.int .i64 a1) (.int .i64 a2) (.int .i64 a3)) Z_r (.int .i64 a0) (.int .i64 a1) (.int .i64 b2) (.int .i64 b3))
    have HE2 := Lib.hid (be4 (be4 HG.out Z_r (.int .i64 a0) (.int .i64 a1) (.int .i64 b2) (.int .i64 b3)) Z_q (.int .i64 a0) (.int .i64 a1) (.int .i64 a2) (.int .i64 a3))
    have z_a_0 : wz.cell? ⟨w2.heap.size, 0, none⟩ = some (.int .i64 a0) := box_cell B_a 0
    have z_a_1 : wz.cell? ⟨w2.heap.size, 1, none⟩ = some (.int .i64 a1) := box_cell B_a 1
    have z_a_2 : wz.cell? ⟨w2.heap.size, 2, none⟩ = some (.int .i64 a2) := box_cell B_a 2
    have z_a_3 : wz.cell? ⟨w2.heap.size, 3, none⟩ = some (.int .i64 a3) := box_cell B_a 3
    have z_b_0 : wz.cell? ⟨w3.heap.size, 0, none⟩ = some (.int .i64 a0) := box_cell B_b 0
    have z_b_1 : wz.cell? ⟨w3.heap.size, 1, none⟩ = some (.int .i64 a1) := box_cell B_b 1
    have z_b_2 : wz.cell? ⟨w3.heap.size, 2, none⟩ = some (.int .i64 b2) := box_cell B_b 2
    have z_b_3 : wz.cell? ⟨w3.heap.size, 3, none⟩ = some (.int .i64 b3) := box_cell B_b 3
    have z_q_0 : wz.cell? ⟨w.heap.size, 0, none⟩ = some (.int .i64 0) := box_cell B_q 0
    have y_q_0 : wz.frozen? ⟨w.heap.size, 0, none⟩ = false := box_free B_q 0
    have z_q_1 : wz.cell? ⟨w.heap.size, 1, none⟩ = some (.int .i64 0) := box_cell B_q 1
    have y_q_1 : wz.frozen? ⟨w.heap.size, 1, none⟩ = false := box_free B_q 1
    have z_q_2 : wz.cell? ⟨w.heap.size, 2, none⟩ = some (.int .i64 0) := box_cell B_q 2
    have y_q_2 : wz.frozen? ⟨w.heap.size, 2, none⟩ = false := box_free B_q 2
    have z_q_3 : wz.cell? ⟨w.heap.size, 3, none⟩ = some (.int .i64 0) := box_cell B_q 3
    have y_q_3 : wz.frozen? ⟨w.heap.size, 3, none⟩ = false := box_free B_q 3
    have z_r_0 : wz.cell? ⟨(w.heap.size + 1), 0, none⟩ = some (.int .i64 0) := box_cell B_r 0
    have y_r_0 : wz.frozen? ⟨(w.heap.size + 1), 0, none⟩ = false := box_free B_r 0
    have z_r_1 : wz.cell? ⟨(w.heap.size + 1), 1, none⟩ = some (.int .i64 0) := box_cell B_r 1
    have y_r_1 : wz.frozen? ⟨(w.heap.size + 1), 1, none⟩ = false := box_free B_r 1
    have z_r_2 : wz.cell? ⟨(w.heap.size + 1), 2, none⟩ = some (.int .i64 0) := box_cell B_r 2
    have y_r_2 : wz.frozen? ⟨(w.heap.size + 1), 2, none⟩ = false := box_free B_r 2
    have z_r_3 : wz.cell? ⟨(w.heap.size + 1), 3, none⟩ = some (.int .i64 0) := box_cell B_r 3
    have y_r_3 : wz.frozen? ⟨(w.heap.size + 1), 3, none⟩ = false := box_free B_r 3
    have o_q_a : ∀ (W : World) (j k : Nat) (u : Value), (W.setCell ⟨w.heap.size, j, none⟩ u).cell? ⟨w2.heap.size, k, none⟩ = W.cell? ⟨w2.heap.size, k, none⟩ := other_cell (by omega)
    have o_q_b : ∀ (W : World) (j k : Nat) (u : Value), (W.setCell ⟨w.heap.size, j, none⟩ u).cell? ⟨w3.heap.size, k, none⟩ = W.cell? ⟨w3.heap.size, k, none⟩ := other_cell (by omega)
    have o_q_r : ∀ (W : World) (j k : Nat) (u : Value), (W.setCell ⟨w.heap.size, j, none⟩ u).cell? ⟨(w.heap.size + 1), k, none⟩ = W.cell? ⟨(w.heap.size + 1), k, none⟩ := other_cell (by omega)
    have s_q_0_1 : ∀ (W : World) (u : Value), (W.setCell ⟨w.heap.size, 0, none⟩ u).cell? ⟨w.heap.size, 1, none⟩ = W.cell? ⟨w.heap.size, 1, none⟩ := same_cell (by decide)
    have s_q_0_2 : ∀ (W : World) (u : Value), (W.setCell ⟨w.heap.size, 0, none⟩ u).cell? ⟨w.heap.size, 2, none⟩ = W.cell? ⟨w.heap.size, 2, none⟩ := same_cell (by decide)
    have s_q_0_3 : ∀ (W : World) (u : Value), (W.setCell ⟨w.heap.size, 0, none⟩ u).cell? ⟨w.heap.size, 3, none⟩ = W.cell? ⟨w.heap.size, 3, none⟩ := same_cell (by decide)
    have s_q_1_2 : ∀ (W : World) (u : Value), (W.setCell ⟨w.heap.size, 1, none⟩ u).cell? ⟨w.heap.size, 2, none⟩ = W.cell? ⟨w.heap.size, 2, none⟩ := same_cell (by decide)
    have s_q_1_3 : ∀ (W : World) (u : Value), (W.setCell ⟨w.heap.size, 1, none⟩ u).cell? ⟨w.heap.size, 3, none⟩ = W.cell? ⟨w.heap.size, 3, none⟩ := same_cell (by decide)
    have s_q_2_3 : ∀ (W : World) (u : Value), (W.setCell ⟨w.heap.size, 2, none⟩ u).cell? ⟨w.heap.size, 3, none⟩ = W.cell? ⟨w.heap.size, 3, none⟩ := same_cell (by decide)
    have o_r_a : ∀ (W : World) (j k : Nat) (u : Value), (W.setCell ⟨(w.heap.size + 1), j, none⟩ u).cell? ⟨w2.heap.size, k, none⟩ = W.cell? ⟨w2.heap.size, k, none⟩ := other_cell (by omega)
    have o_r_b : ∀ (W : World) (j k : Nat) (u : Value), (W.setCell ⟨(w.heap.size + 1), j, none⟩ u).cell? ⟨w3.heap.size, k, none⟩ = W.cell? ⟨w3.heap.size, k, none⟩ := other_cell (by omega)
    have o_r_q : ∀ (W : World) (j k : Nat) (u : Value), (W.setCell ⟨(w.heap.size + 1), j, none⟩ u).cell? ⟨w.heap.size, k, none⟩ = W.cell? ⟨w.heap.size, k, none⟩ := other_cell (by omega)
    have s_r_0_1 : ∀ (W : World) (u : Value), (W.setCell ⟨(w.heap.size + 1), 0, none⟩ u).cell? ⟨(w.heap.size + 1), 1, none⟩ = W.cell? ⟨(w.heap.size + 1), 1, none⟩ := same_cell (by decide)
    have s_r_0_2 : ∀ (W : World) (u : Value), (W.setCell ⟨(w.heap.size + 1), 0, none⟩ u).cell? ⟨(w.heap.size + 1), 2, none⟩ = W.cell? ⟨(w.heap.size + 1), 2, none⟩ := same_cell (by decide)
    have s_r_0_3 : ∀ (W : World) (u : Value), (W.setCell ⟨(w.heap.size + 1), 0, none⟩ u).cell? ⟨(w.heap.size + 1), 3, none⟩ = W.cell? ⟨(w.heap.size + 1), 3, none⟩ := same_cell (by decide)
    have s_r_1_2 : ∀ (W : World) (u : Value), (W.setCell ⟨(w.heap.size + 1), 1, none⟩ u).cell? ⟨(w.heap.size + 1), 2, none⟩ = W.cell? ⟨(w.heap.size + 1), 2, none⟩ := same_cell (by decide)
    have s_r_1_3 : ∀ (W : World) (u : Value), (W.setCell ⟨(w.heap.size + 1), 1, none⟩ u).cell? ⟨(w.heap.size + 1), 3, none⟩ = W.cell? ⟨(w.heap.size + 1), 3, none⟩ := same_cell (by decide)
    have s_r_2_3 : ∀ (W : World) (u : Value), (W.setCell ⟨(w.heap.size + 1), 2, none⟩ u).cell? ⟨(w.heap.size + 1), 3, none⟩ = W.cell? ⟨(w.heap.size + 1), 3, none⟩ := same_cell (by decide)
    go_region_law (fail)
    all_goals (go_wp2_with fail; first | exact bodyPost_ret (v := .tuple #[.agg #[.int .i64 a0, .int .i64 a1, .int .i64 a2, .int .i64 a3], .agg #[.int .i64 a0, .int .i64 a1, .int .i64 b2, .int .i64 b3]]) (by simp [results, Tryd.results25, go_sem, box_cell BQ3 0, box_cell BQ3 1, box_cell BQ3 2, box_cell BQ3 3, box_cell BR3 0, box_cell BR3 1, box_cell BR3 2, box_cell BR3 3]) rfl ⟨_, _, _, _, _, _, _, _, rfl, drew1B HE1.out⟩ | exact bodyPost_ret (v := .tuple #[.agg #[.int .i64 a0, .int .i64 a1, .int .i64 a2, .int .i64 a3], .agg #[.int .i64 a0, .int .i64 a1, .int .i64 b2, .int .i64 b3]]) (by simp [results, Tryd.results25, go_sem, box_cell BQ4 0, box_cell BQ4 1, box_cell BQ4 2, box_cell BQ4 3, box_cell BR4 0, box_cell BR4 1, box_cell BR4 2, box_cell BR4 3]) rfl ⟨_, _, _, _, _, _, _, _, rfl, drew1B HE2.out⟩)
  | false =>
    go_wp2_with fail
    have BR2 := fbox4 B_r (by omega : (w.heap.size + 1) ≠ w.heap.size) (.int .i64 a0) (.int .i64 a1) (.int .i64 a2) (.int .i64 a3)
    have BQ2 := fbox4 B_q (by omega : w.heap.size ≠ (w.heap.size + 1)) (.int .i64 b0) (.int .i64 b1) (.int .i64 b2) (.int .i64 b3)
    have BR3 := box4 BR2 (.int .i64 b0) (.int .i64 b1) (.int .i64 b2) (.int .i64 b3)
    have BQ3 := fbox4 (box4 B_q (.int .i64 a0) (.int .i64 a1) (.int .i64 a2) (.int .i64 a3)) (by omega : w.heap.size ≠ (w.heap.size + 1)) (.int .i64 b0) (.int .i64 b1) (.int .i64 b2) (.int .i64 b3)
    have BQ4 := box4 BQ2 (.int .i64 a0) (.int .i64 a1) (.int .i64 a2) (.int .i64 a3)
    have BR4 := fbox4 (box4 B_r (.int .i64 b0) (.int .i64 b1) (.int .i64 b2) (.int .i64 b3)) (by omega : (w.heap.size + 1) ≠ w.heap.size) (.int .i64 a0) (.int .i64 a1) (.int .i64 a2) (.int .i64 a3)
    have HE1 := Lib.hid (be4 (be4 HG.out Z_q (.int .i64 a0) (.int .i64 a1) (.int .i64 a2) (.int .i64 a3)) Z_r (.int .i64 b0) (.int .i64 b1) (.int .i64 b2) (.int .i64 b3))
    have HE2 := Lib.hid (be4 (be4 HG.out Z_r (.int .i64 b0) (.int .i64 b1) (.int .i64 b2) (.int .i64 b3)) Z_q (.int .i64 a0) (.int .i64 a1) (.int .i64 a2) (.int .i64 a3))
    have z_a_0 : w4.cell? ⟨w2.heap.size, 0, none⟩ = some (.int .i64 a0) := box_cell B_a 0
    have z_a_1 : w4.cell? ⟨w2.heap.size, 1, none⟩ = some (.int .i64 a1) := box_cell B_a 1
    have z_a_2 : w4.cell? ⟨w2.heap.size, 2, none⟩ = some (.int .i64 a2) := box_cell B_a 2
    have z_a_3 : w4.cell? ⟨w2.heap.size, 3, none⟩ = some (.int .i64 a3) := box_cell B_a 3
    have z_b_0 : w4.cell? ⟨w3.heap.size, 0, none⟩ = some (.int .i64 b0) := box_cell B_b 0
    have z_b_1 : w4.cell? ⟨w3.heap.size, 1, none⟩ = some (.int .i64 b1) := box_cell B_b 1
    have z_b_2 : w4.cell? ⟨w3.heap.size, 2, none⟩ = some (.int .i64 b2) := box_cell B_b 2
    have z_b_3 : w4.cell? ⟨w3.heap.size, 3, none⟩ = some (.int .i64 b3) := box_cell B_b 3
    have z_q_0 : w4.cell? ⟨w.heap.size, 0, none⟩ = some (.int .i64 0) := box_cell B_q 0
    have y_q_0 : w4.frozen? ⟨w.heap.size, 0, none⟩ = false := box_free B_q 0
    have z_q_1 : w4.cell? ⟨w.heap.size, 1, none⟩ = some (.int .i64 0) := box_cell B_q 1
    have y_q_1 : w4.frozen? ⟨w.heap.size, 1, none⟩ = false := box_free B_q 1
    have z_q_2 : w4.cell? ⟨w.heap.size, 2, none⟩ = some (.int .i64 0) := box_cell B_q 2
    have y_q_2 : w4.frozen? ⟨w.heap.size, 2, none⟩ = false := box_free B_q 2
    have z_q_3 : w4.cell? ⟨w.heap.size, 3, none⟩ = some (.int .i64 0) := box_cell B_q 3
    have y_q_3 : w4.frozen? ⟨w.heap.size, 3, none⟩ = false := box_free B_q 3
    have z_r_0 : w4.cell? ⟨(w.heap.size + 1), 0, none⟩ = some (.int .i64 0) := box_cell B_r 0
    have y_r_0 : w4.frozen? ⟨(w.heap.size + 1), 0, none⟩ = false := box_free B_r 0
    have z_r_1 : w4.cell? ⟨(w.heap.size + 1), 1, none⟩ = some (.int .i64 0) := box_cell B_r 1
    have y_r_1 : w4.frozen? ⟨(w.heap.size + 1), 1, none⟩ = false := box_free B_r 1
    have z_r_2 : w4.cell? ⟨(w.heap.size + 1), 2, none⟩ = some (.int .i64 0) := box_cell B_r 2
    have y_r_2 : w4.frozen? ⟨(w.heap.size + 1), 2, none⟩ = false := box_free B_r 2
    have z_r_3 : w4.cell? ⟨(w.heap.size + 1), 3, none⟩ = some (.int .i64 0) := box_cell B_r 3
    have y_r_3 : w4.frozen? ⟨(w.heap.size + 1), 3, none⟩ = false := box_free B_r 3
    have o_q_a : ∀ (W : World) (j k : Nat) (u : Value), (W.setCell ⟨w.heap.size, j, none⟩ u).cell? ⟨w2.heap.size, k, none⟩ = W.cell? ⟨w2.heap.size, k, none⟩ := other_cell (by omega)
    have o_q_b : ∀ (W : World) (j k : Nat) (u : Value), (W.setCell ⟨w.heap.size, j, none⟩ u).cell? ⟨w3.heap.size, k, none⟩ = W.cell? ⟨w3.heap.size, k, none⟩ := other_cell (by omega)
    have o_q_r : ∀ (W : World) (j k : Nat) (u : Value), (W.setCell ⟨w.heap.size, j, none⟩ u).cell? ⟨(w.heap.size + 1), k, none⟩ = W.cell? ⟨(w.heap.size + 1), k, none⟩ := other_cell (by omega)
    have s_q_0_1 : ∀ (W : World) (u : Value), (W.setCell ⟨w.heap.size, 0, none⟩ u).cell? ⟨w.heap.size, 1, none⟩ = W.cell? ⟨w.heap.size, 1, none⟩ := same_cell (by decide)
    have s_q_0_2 : ∀ (W : World) (u : Value), (W.setCell ⟨w.heap.size, 0, none⟩ u).cell? ⟨w.heap.size, 2, none⟩ = W.cell? ⟨w.heap.size, 2, none⟩ := same_cell (by decide)
    have s_q_0_3 : ∀ (W : World) (u : Value), (W.setCell ⟨w.heap.size, 0, none⟩ u).cell? ⟨w.heap.size, 3, none⟩ = W.cell? ⟨w.heap.size, 3, none⟩ := same_cell (by decide)
    have s_q_1_2 : ∀ (W : World) (u : Value), (W.setCell ⟨w.heap.size, 1, none⟩ u).cell? ⟨w.heap.size, 2, none⟩ = W.cell? ⟨w.heap.size, 2, none⟩ := same_cell (by decide)
    have s_q_1_3 : ∀ (W : World) (u : Value), (W.setCell ⟨w.heap.size, 1, none⟩ u).cell? ⟨w.heap.size, 3, none⟩ = W.cell? ⟨w.heap.size, 3, none⟩ := same_cell (by decide)
    have s_q_2_3 : ∀ (W : World) (u : Value), (W.setCell ⟨w.heap.size, 2, none⟩ u).cell? ⟨w.heap.size, 3, none⟩ = W.cell? ⟨w.heap.size, 3, none⟩ := same_cell (by decide)
    have o_r_a : ∀ (W : World) (j k : Nat) (u : Value), (W.setCell ⟨(w.heap.size + 1), j, none⟩ u).cell? ⟨w2.heap.size, k, none⟩ = W.cell? ⟨w2.heap.size, k, none⟩ := other_cell (by omega)
    have o_r_b : ∀ (W : World) (j k : Nat) (u : Value), (W.setCell ⟨(w.heap.size + 1), j, none⟩ u).cell? ⟨w3.heap.size, k, none⟩ = W.cell? ⟨w3.heap.size, k, none⟩ := other_cell (by omega)
    have o_r_q : ∀ (W : World) (j k : Nat) (u : Value), (W.setCell ⟨(w.heap.size + 1), j, none⟩ u).cell? ⟨w.heap.size, k, none⟩ = W.cell? ⟨w.heap.size, k, none⟩ := other_cell (by omega)
    have s_r_0_1 : ∀ (W : World) (u : Value), (W.setCell ⟨(w.heap.size + 1), 0, none⟩ u).cell? ⟨(w.heap.size + 1), 1, none⟩ = W.cell? ⟨(w.heap.size + 1), 1, none⟩ := same_cell (by decide)
    have s_r_0_2 : ∀ (W : World) (u : Value), (W.setCell ⟨(w.heap.size + 1), 0, none⟩ u).cell? ⟨(w.heap.size + 1), 2, none⟩ = W.cell? ⟨(w.heap.size + 1), 2, none⟩ := same_cell (by decide)
    have s_r_0_3 : ∀ (W : World) (u : Value), (W.setCell ⟨(w.heap.size + 1), 0, none⟩ u).cell? ⟨(w.heap.size + 1), 3, none⟩ = W.cell? ⟨(w.heap.size + 1), 3, none⟩ := same_cell (by decide)
    have s_r_1_2 : ∀ (W : World) (u : Value), (W.setCell ⟨(w.heap.size + 1), 1, none⟩ u).cell? ⟨(w.heap.size + 1), 2, none⟩ = W.cell? ⟨(w.heap.size + 1), 2, none⟩ := same_cell (by decide)
    have s_r_1_3 : ∀ (W : World) (u : Value), (W.setCell ⟨(w.heap.size + 1), 1, none⟩ u).cell? ⟨(w.heap.size + 1), 3, none⟩ = W.cell? ⟨(w.heap.size + 1), 3, none⟩ := same_cell (by decide)
    have s_r_2_3 : ∀ (W : World) (u : Value), (W.setCell ⟨(w.heap.size + 1), 2, none⟩ u).cell? ⟨(w.heap.size + 1), 3, none⟩ = W.cell? ⟨(w.heap.size + 1), 3, none⟩ := same_cell (by decide)
    go_region_law (fail)
    all_goals (go_wp2_with fail; first | exact bodyPost_ret (v := .tuple #[.agg #[.int .i64 a0, .int .i64 a1, .int .i64 a2, .int .i64 a3], .agg #[.int .i64 b0, .int .i64 b1, .int .i64 b2, .int .i64 b3]]) (by simp [results, Tryd.results25, go_sem, box_cell BQ3 0, box_cell BQ3 1, box_cell BQ3 2, box_cell BQ3 3, box_cell BR3 0, box_cell BR3 1, box_cell BR3 2, box_cell BR3 3]) rfl ⟨_, _, _, _, _, _, _, _, rfl, drew1B HE1.out⟩ | exact bodyPost_ret (v := .tuple #[.agg #[.int .i64 a0, .int .i64 a1, .int .i64 a2, .int .i64 a3], .agg #[.int .i64 b0, .int .i64 b1, .int .i64 b2, .int .i64 b3]]) (by simp [results, Tryd.results25, go_sem, box_cell BQ4 0, box_cell BQ4 1, box_cell BQ4 2, box_cell BQ4 3, box_cell BR4 0, box_cell BR4 1, box_cell BR4 2, box_cell BR4 3]) rfl ⟨_, _, _, _, _, _, _, _, rfl, drew1B HE2.out⟩)
end Go.Proofs.YtdlphgknplomkaaDoor
