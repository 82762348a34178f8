/- Contracts of the functions that draw batteries, loads and plans: what is drawn is of the right form; nothing is said of its values. No statement is proved here. -/
import Derived.Test.YtjlbhpogmjjbiaaDoorDrL
import Derived.Test.YtjlbhpogmjjbiaaDoorBat
import Derived.Test.YtjlbhpogmjjbiaaDoorFrB
import Derived.Test.YtjlbhpogmjjbiaaDoorBatQ
import Derived.Deep.CutRange
namespace Go.Proofs.YtjlbhpogmjjbiaaDoor
open Go.RowKit

/-- a battery is drawn -/
def DrBat (R f : Nat) (w : World) (e : Ending) (w' : World) : Prop :=
  ∃ s r l : Int, e = .returned (.agg #[.int .i64 s, .int .i64 r, .int .i64 l]) ∧ (0 ≤ s ∧ s ≤ 1000) ∧ (-1 ≤ r ∧ r ≤ 1000) ∧ (0 ≤ l ∧ l ≤ 1000) ∧ Rdr w' R f ∧ w.grownBy w' (some R)

set_option maxHeartbeats 2000000 in
theorem drBattery (R f : Nat) (n : Int) (w : World) (hr : Rdr w R f) (hf : f ≤ 900000) (hn0 : 1 ≤ n) (hn : n ≤ 1000) :
    Calls Tryd.prog 26 #[.pointer (some ⟨R, 0, none⟩), .int .i64 n] w (DrBat R (f + 5) w) := by
  have HL := Lib.hid hr.lt
  have HR := Lib.hid hr; clear hr
  have HG := Lib.hid (gr_refl w R)
  go_enter Tryd.func26, Tryd.ntmps26
  replace HR := Lib.hid (rdr_alloc HR.out (.cells #[.int .i64 0, .int .i64 0, .int .i64 0] 24))
  have B_q := new_box w (.cells #[.int .i64 0, .int .i64 0, .int .i64 0] 24)
  have Z_q : w.heap.size ≤ w.heap.size := by have := HG.out.size; first | omega | (simp at this; omega) | (simp at this ⊢; omega)
  have N_q : R < w.heap.size := by have := HL.out; omega
  replace HG := Lib.hid (gr_alloc HG.out (.cells #[.int .i64 0, .int .i64 0, .int .i64 0] 24))
  go_wp2_with fail
  refine (pickC R _ 40 _ HR.out (by omega) (by omega)).mono ?_
  rintro e w1 ⟨x1, rfl, hx_x1, hR, hg⟩
  replace B_q := dr_box B_q hg (by omega)
  replace HR := Lib.hid hR
  replace HG := Lib.hid (HG.out.trans hg)
  clear hR hg
  go_wp2_with fail
  refine (pickC R _ 12 _ HR.out (by omega) (by omega)).mono ?_
  rintro e w2 ⟨x2, rfl, hx_x2, hR, hg⟩
  replace B_q := dr_box B_q hg (by omega)
  replace HR := Lib.hid hR
  replace HG := Lib.hid (HG.out.trans hg)
  clear hR hg
  have hx1 : (x1 : Int) ≤ 39 := by omega
  have hx2 : (x2 : Int) ≤ 39 := by omega
  have M0_q := blk_lt B_q.out
  replace B_q := al_box B_q (.cells #[.int .i64 (x1 : Int), .int .i64 (x2 : Int), .int .i64 0] 24)
  replace HR := Lib.hid (rdr_alloc HR.out (.cells #[.int .i64 (x1 : Int), .int .i64 (x2 : Int), .int .i64 0] 24))
  have B_b := new_box w2 (.cells #[.int .i64 (x1 : Int), .int .i64 (x2 : Int), .int .i64 0] 24)
  have Z_b : w.heap.size ≤ w2.heap.size := by have := HG.out.size; first | omega | (simp at this; omega) | (simp at this ⊢; omega)
  have N_b : R < w2.heap.size := by have := HL.out; omega
  have M_q_b : w.heap.size < w2.heap.size := M0_q
  replace HG := Lib.hid (gr_alloc HG.out (.cells #[.int .i64 (x1 : Int), .int .i64 (x2 : Int), .int .i64 0] 24))
  go_wp2_with fail
  refine (pickC R _ ((x1 : Int) + 1) _ HR.out (by omega) (by omega)).mono ?_
  rintro e w3 ⟨x3, rfl, hx_x3, hR, hg⟩
  replace B_q := dr_box B_q hg (by omega)
  replace B_b := dr_box B_b hg (by omega)
  replace HR := Lib.hid hR
  replace HG := Lib.hid (HG.out.trans hg)
  clear hR hg
  clear M0_q
  have hx3 : (x3 : Int) ≤ 39 := by omega
  have k_b_4 : w3.cell? ⟨w2.heap.size, 2, none⟩ = some (.int .i64 0) := box_cell B_b 2
  have y_b_4 : w3.frozen? ⟨w2.heap.size, 2, none⟩ = false := box_free B_b 2
  replace B_q := st_box (g' := w2.heap.size) (j := 2) B_q (.int .i64 (x3 : Int)) (by omega)
  replace B_b := st_same B_b 2 (.int .i64 (x3 : Int))
  replace HR := Lib.hid (rdr_set HR.out 2 (.int .i64 (x3 : Int)) N_b)
  replace HG := Lib.hid (gr_set HG.out 2 (.int .i64 (x3 : Int)) Z_b)
  replace B_b : Hid ((w3.setCell ⟨w2.heap.size, 2, none⟩ (.int .i64 (x3 : Int))).heap[w2.heap.size]? = some (.cells #[.int .i64 (x1 : Int), .int .i64 (x2 : Int), .int .i64 (x3 : Int)] 24 (0, 0))) := B_b
  go_wp2_with fail
  refine (oddC R _ n _ HR.out (by omega) (by omega) (by omega)).mono ?_
  rintro e w5 ⟨bb, rfl, hR, hg⟩
  replace B_q := dr_box B_q hg (by omega)
  replace B_b := dr_box B_b hg (by omega)
  replace HR := Lib.hid hR
  replace HG := Lib.hid (HG.out.trans hg)
  clear hR hg
  clear k_b_4 y_b_4
  cases bb with
  | false =>
    have c_b_0 : w5.cell? ⟨w2.heap.size, 0, none⟩ = some (.int .i64 (x1 : Int)) := box_cell B_b 0
    have c_b_1 : w5.cell? ⟨w2.heap.size, 1, none⟩ = some (.int .i64 (x2 : Int)) := box_cell B_b 1
    have c_b_2 : w5.cell? ⟨w2.heap.size, 2, none⟩ = some (.int .i64 (x3 : Int)) := box_cell B_b 2
    have k_q_6 : w5.cell? ⟨w.heap.size, 0, none⟩ = some (.int .i64 0) := box_cell B_q 0
    have y_q_6 : w5.frozen? ⟨w.heap.size, 0, none⟩ = false := box_free B_q 0
    replace B_b := st_box (g' := w.heap.size) (j := 0) B_b (.int .i64 (x1 : Int)) (by omega)
    replace B_q := st_same B_q 0 (.int .i64 (x1 : Int))
    replace HR := Lib.hid (rdr_set HR.out 0 (.int .i64 (x1 : Int)) N_q)
    replace HG := Lib.hid (gr_set HG.out 0 (.int .i64 (x1 : Int)) Z_q)
    replace B_q : Hid ((w5.setCell ⟨w.heap.size, 0, none⟩ (.int .i64 (x1 : Int))).heap[w.heap.size]? = some (.cells #[.int .i64 (x1 : Int), .int .i64 0, .int .i64 0] 24 (0, 0))) := B_q
    have k_q_7 : (w5.setCell ⟨w.heap.size, 0, none⟩ (.int .i64 (x1 : Int))).cell? ⟨w.heap.size, 1, none⟩ = some (.int .i64 0) := box_cell B_q 1
    have y_q_7 : (w5.setCell ⟨w.heap.size, 0, none⟩ (.int .i64 (x1 : Int))).frozen? ⟨w.heap.size, 1, none⟩ = false := box_free B_q 1
    replace B_b := st_box (g' := w.heap.size) (j := 1) B_b (.int .i64 (x2 : Int)) (by omega)
    replace B_q := st_same B_q 1 (.int .i64 (x2 : Int))
    replace HR := Lib.hid (rdr_set HR.out 1 (.int .i64 (x2 : Int)) N_q)
    replace HG := Lib.hid (gr_set HG.out 1 (.int .i64 (x2 : Int)) Z_q)
    replace B_q : Hid (((w5.setCell ⟨w.heap.size, 0, none⟩ (.int .i64 (x1 : Int))).setCell ⟨w.heap.size, 1, none⟩ (.int .i64 (x2 : Int))).heap[w.heap.size]? = some (.cells #[.int .i64 (x1 : Int), .int .i64 (x2 : Int), .int .i64 0] 24 (0, 0))) := B_q
    have k_q_8 : ((w5.setCell ⟨w.heap.size, 0, none⟩ (.int .i64 (x1 : Int))).setCell ⟨w.heap.size, 1, none⟩ (.int .i64 (x2 : Int))).cell? ⟨w.heap.size, 2, none⟩ = some (.int .i64 0) := box_cell B_q 2
    have y_q_8 : ((w5.setCell ⟨w.heap.size, 0, none⟩ (.int .i64 (x1 : Int))).setCell ⟨w.heap.size, 1, none⟩ (.int .i64 (x2 : Int))).frozen? ⟨w.heap.size, 2, none⟩ = false := box_free B_q 2
    replace B_b := st_box (g' := w.heap.size) (j := 2) B_b (.int .i64 (x3 : Int)) (by omega)
    replace B_q := st_same B_q 2 (.int .i64 (x3 : Int))
    replace HR := Lib.hid (rdr_set HR.out 2 (.int .i64 (x3 : Int)) N_q)
    replace HG := Lib.hid (gr_set HG.out 2 (.int .i64 (x3 : Int)) Z_q)
    replace B_q : Hid ((((w5.setCell ⟨w.heap.size, 0, none⟩ (.int .i64 (x1 : Int))).setCell ⟨w.heap.size, 1, none⟩ (.int .i64 (x2 : Int))).setCell ⟨w.heap.size, 2, none⟩ (.int .i64 (x3 : Int))).heap[w.heap.size]? = some (.cells #[.int .i64 (x1 : Int), .int .i64 (x2 : Int), .int .i64 (x3 : Int)] 24 (0, 0))) := B_q
    have c_q_0 : (((w5.setCell ⟨w.heap.size, 0, none⟩ (.int .i64 (x1 : Int))).setCell ⟨w.heap.size, 1, none⟩ (.int .i64 (x2 : Int))).setCell ⟨w.heap.size, 2, none⟩ (.int .i64 (x3 : Int))).cell? ⟨w.heap.size, 0, none⟩ = some (.int .i64 (x1 : Int)) := box_cell B_q 0
    have c_q_1 : (((w5.setCell ⟨w.heap.size, 0, none⟩ (.int .i64 (x1 : Int))).setCell ⟨w.heap.size, 1, none⟩ (.int .i64 (x2 : Int))).setCell ⟨w.heap.size, 2, none⟩ (.int .i64 (x3 : Int))).cell? ⟨w.heap.size, 1, none⟩ = some (.int .i64 (x2 : Int)) := box_cell B_q 1
    have c_q_2 : (((w5.setCell ⟨w.heap.size, 0, none⟩ (.int .i64 (x1 : Int))).setCell ⟨w.heap.size, 1, none⟩ (.int .i64 (x2 : Int))).setCell ⟨w.heap.size, 2, none⟩ (.int .i64 (x3 : Int))).cell? ⟨w.heap.size, 2, none⟩ = some (.int .i64 (x3 : Int)) := box_cell B_q 2
    go_wp2_with fail
    refine bodyPost_ret (v := .agg #[.int .i64 (x1 : Int), .int .i64 (x2 : Int), .int .i64 (x3 : Int)]) (by simp [results, Tryd.results26, go_sem, c_q_0, c_q_1, c_q_2]) rfl ⟨_, _, _, rfl, by omega, by omega, by omega, HR.out.mono (by omega), HG.out⟩
  | true =>
    go_wp2_with fail
    refine (pickC R _ 3 _ HR.out (by omega) (by omega)).mono ?_
    rintro e w6 ⟨x4, rfl, hx_x4, hR, hg⟩
    replace B_q := dr_box B_q hg (by omega)
    replace B_b := dr_box B_b hg (by omega)
    replace HR := Lib.hid hR
    replace HG := Lib.hid (HG.out.trans hg)
    clear hR hg
    cases e0 : ((x4 : Int) == 0) with
    | true =>
      have c_b_0 : w6.cell? ⟨w2.heap.size, 0, none⟩ = some (.int .i64 (x1 : Int)) := box_cell B_b 0
      have k_b_7 : w6.cell? ⟨w2.heap.size, 2, none⟩ = some (.int .i64 (x3 : Int)) := box_cell B_b 2
      have y_b_7 : w6.frozen? ⟨w2.heap.size, 2, none⟩ = false := box_free B_b 2
      replace B_q := st_box (g' := w2.heap.size) (j := 2) B_q (.int .i64 ((x1 : Int) + 1)) (by omega)
      replace B_b := st_same B_b 2 (.int .i64 ((x1 : Int) + 1))
      replace HR := Lib.hid (rdr_set HR.out 2 (.int .i64 ((x1 : Int) + 1)) N_b)
      replace HG := Lib.hid (gr_set HG.out 2 (.int .i64 ((x1 : Int) + 1)) Z_b)
      replace B_b : Hid ((w6.setCell ⟨w2.heap.size, 2, none⟩ (.int .i64 ((x1 : Int) + 1))).heap[w2.heap.size]? = some (.cells #[.int .i64 (x1 : Int), .int .i64 (x2 : Int), .int .i64 ((x1 : Int) + 1)] 24 (0, 0))) := B_b
      have c_b_0 : (w6.setCell ⟨w2.heap.size, 2, none⟩ (.int .i64 ((x1 : Int) + 1))).cell? ⟨w2.heap.size, 0, none⟩ = some (.int .i64 (x1 : Int)) := box_cell B_b 0
      have c_b_1 : (w6.setCell ⟨w2.heap.size, 2, none⟩ (.int .i64 ((x1 : Int) + 1))).cell? ⟨w2.heap.size, 1, none⟩ = some (.int .i64 (x2 : Int)) := box_cell B_b 1
      have c_b_2 : (w6.setCell ⟨w2.heap.size, 2, none⟩ (.int .i64 ((x1 : Int) + 1))).cell? ⟨w2.heap.size, 2, none⟩ = some (.int .i64 ((x1 : Int) + 1)) := box_cell B_b 2
      have k_q_8 : (w6.setCell ⟨w2.heap.size, 2, none⟩ (.int .i64 ((x1 : Int) + 1))).cell? ⟨w.heap.size, 0, none⟩ = some (.int .i64 0) := box_cell B_q 0
      have y_q_8 : (w6.setCell ⟨w2.heap.size, 2, none⟩ (.int .i64 ((x1 : Int) + 1))).frozen? ⟨w.heap.size, 0, none⟩ = false := box_free B_q 0
      replace B_b := st_box (g' := w.heap.size) (j := 0) B_b (.int .i64 (x1 : Int)) (by omega)
      replace B_q := st_same B_q 0 (.int .i64 (x1 : Int))
      replace HR := Lib.hid (rdr_set HR.out 0 (.int .i64 (x1 : Int)) N_q)
      replace HG := Lib.hid (gr_set HG.out 0 (.int .i64 (x1 : Int)) Z_q)
      replace B_q : Hid (((w6.setCell ⟨w2.heap.size, 2, none⟩ (.int .i64 ((x1 : Int) + 1))).setCell ⟨w.heap.size, 0, none⟩ (.int .i64 (x1 : Int))).heap[w.heap.size]? = some (.cells #[.int .i64 (x1 : Int), .int .i64 0, .int .i64 0] 24 (0, 0))) := B_q
      have k_q_9 : ((w6.setCell ⟨w2.heap.size, 2, none⟩ (.int .i64 ((x1 : Int) + 1))).setCell ⟨w.heap.size, 0, none⟩ (.int .i64 (x1 : Int))).cell? ⟨w.heap.size, 1, none⟩ = some (.int .i64 0) := box_cell B_q 1
      have y_q_9 : ((w6.setCell ⟨w2.heap.size, 2, none⟩ (.int .i64 ((x1 : Int) + 1))).setCell ⟨w.heap.size, 0, none⟩ (.int .i64 (x1 : Int))).frozen? ⟨w.heap.size, 1, none⟩ = false := box_free B_q 1
      replace B_b := st_box (g' := w.heap.size) (j := 1) B_b (.int .i64 (x2 : Int)) (by omega)
      replace B_q := st_same B_q 1 (.int .i64 (x2 : Int))
      replace HR := Lib.hid (rdr_set HR.out 1 (.int .i64 (x2 : Int)) N_q)
      replace HG := Lib.hid (gr_set HG.out 1 (.int .i64 (x2 : Int)) Z_q)
      replace B_q : Hid ((((w6.setCell ⟨w2.heap.size, 2, none⟩ (.int .i64 ((x1 : Int) + 1))).setCell ⟨w.heap.size, 0, none⟩ (.int .i64 (x1 : Int))).setCell ⟨w.heap.size, 1, none⟩ (.int .i64 (x2 : Int))).heap[w.heap.size]? = some (.cells #[.int .i64 (x1 : Int), .int .i64 (x2 : Int), .int .i64 0] 24 (0, 0))) := B_q
      have k_q_10 : (((w6.setCell ⟨w2.heap.size, 2, none⟩ (.int .i64 ((x1 : Int) + 1))).setCell ⟨w.heap.size, 0, none⟩ (.int .i64 (x1 : Int))).setCell ⟨w.heap.size, 1, none⟩ (.int .i64 (x2 : Int))).cell? ⟨w.heap.size, 2, none⟩ = some (.int .i64 0) := box_cell B_q 2
      have y_q_10 : (((w6.setCell ⟨w2.heap.size, 2, none⟩ (.int .i64 ((x1 : Int) + 1))).setCell ⟨w.heap.size, 0, none⟩ (.int .i64 (x1 : Int))).setCell ⟨w.heap.size, 1, none⟩ (.int .i64 (x2 : Int))).frozen? ⟨w.heap.size, 2, none⟩ = false := box_free B_q 2
      replace B_b := st_box (g' := w.heap.size) (j := 2) B_b (.int .i64 ((x1 : Int) + 1)) (by omega)
      replace B_q := st_same B_q 2 (.int .i64 ((x1 : Int) + 1))
      replace HR := Lib.hid (rdr_set HR.out 2 (.int .i64 ((x1 : Int) + 1)) N_q)
      replace HG := Lib.hid (gr_set HG.out 2 (.int .i64 ((x1 : Int) + 1)) Z_q)
      replace B_q : Hid (((((w6.setCell ⟨w2.heap.size, 2, none⟩ (.int .i64 ((x1 : Int) + 1))).setCell ⟨w.heap.size, 0, none⟩ (.int .i64 (x1 : Int))).setCell ⟨w.heap.size, 1, none⟩ (.int .i64 (x2 : Int))).setCell ⟨w.heap.size, 2, none⟩ (.int .i64 ((x1 : Int) + 1))).heap[w.heap.size]? = some (.cells #[.int .i64 (x1 : Int), .int .i64 (x2 : Int), .int .i64 ((x1 : Int) + 1)] 24 (0, 0))) := B_q
      have c_q_0 : ((((w6.setCell ⟨w2.heap.size, 2, none⟩ (.int .i64 ((x1 : Int) + 1))).setCell ⟨w.heap.size, 0, none⟩ (.int .i64 (x1 : Int))).setCell ⟨w.heap.size, 1, none⟩ (.int .i64 (x2 : Int))).setCell ⟨w.heap.size, 2, none⟩ (.int .i64 ((x1 : Int) + 1))).cell? ⟨w.heap.size, 0, none⟩ = some (.int .i64 (x1 : Int)) := box_cell B_q 0
      have c_q_1 : ((((w6.setCell ⟨w2.heap.size, 2, none⟩ (.int .i64 ((x1 : Int) + 1))).setCell ⟨w.heap.size, 0, none⟩ (.int .i64 (x1 : Int))).setCell ⟨w.heap.size, 1, none⟩ (.int .i64 (x2 : Int))).setCell ⟨w.heap.size, 2, none⟩ (.int .i64 ((x1 : Int) + 1))).cell? ⟨w.heap.size, 1, none⟩ = some (.int .i64 (x2 : Int)) := box_cell B_q 1
      have c_q_2 : ((((w6.setCell ⟨w2.heap.size, 2, none⟩ (.int .i64 ((x1 : Int) + 1))).setCell ⟨w.heap.size, 0, none⟩ (.int .i64 (x1 : Int))).setCell ⟨w.heap.size, 1, none⟩ (.int .i64 (x2 : Int))).setCell ⟨w.heap.size, 2, none⟩ (.int .i64 ((x1 : Int) + 1))).cell? ⟨w.heap.size, 2, none⟩ = some (.int .i64 ((x1 : Int) + 1)) := box_cell B_q 2
      go_wp2_with fail
      refine bodyPost_ret (v := .agg #[.int .i64 (x1 : Int), .int .i64 (x2 : Int), .int .i64 ((x1 : Int) + 1)]) (by simp [results, Tryd.results26, go_sem, c_q_0, c_q_1, c_q_2]) rfl ⟨_, _, _, rfl, by omega, by omega, by omega, HR.out.mono (by omega), HG.out⟩
    | false =>
      cases e1 : ((x4 : Int) == 1) with
      | true =>
        have k_b_7 : w6.cell? ⟨w2.heap.size, 1, none⟩ = some (.int .i64 (x2 : Int)) := box_cell B_b 1
        have y_b_7 : w6.frozen? ⟨w2.heap.size, 1, none⟩ = false := box_free B_b 1
        replace B_q := st_box (g' := w2.heap.size) (j := 1) B_q (.int .i64 (-1)) (by omega)
        replace B_b := st_same B_b 1 (.int .i64 (-1))
        replace HR := Lib.hid (rdr_set HR.out 1 (.int .i64 (-1)) N_b)
        replace HG := Lib.hid (gr_set HG.out 1 (.int .i64 (-1)) Z_b)
        replace B_b : Hid ((w6.setCell ⟨w2.heap.size, 1, none⟩ (.int .i64 (-1))).heap[w2.heap.size]? = some (.cells #[.int .i64 (x1 : Int), .int .i64 (-1), .int .i64 (x3 : Int)] 24 (0, 0))) := B_b
        have c_b_0 : (w6.setCell ⟨w2.heap.size, 1, none⟩ (.int .i64 (-1))).cell? ⟨w2.heap.size, 0, none⟩ = some (.int .i64 (x1 : Int)) := box_cell B_b 0
        have c_b_1 : (w6.setCell ⟨w2.heap.size, 1, none⟩ (.int .i64 (-1))).cell? ⟨w2.heap.size, 1, none⟩ = some (.int .i64 (-1)) := box_cell B_b 1
        have c_b_2 : (w6.setCell ⟨w2.heap.size, 1, none⟩ (.int .i64 (-1))).cell? ⟨w2.heap.size, 2, none⟩ = some (.int .i64 (x3 : Int)) := box_cell B_b 2
        have k_q_8 : (w6.setCell ⟨w2.heap.size, 1, none⟩ (.int .i64 (-1))).cell? ⟨w.heap.size, 0, none⟩ = some (.int .i64 0) := box_cell B_q 0
        have y_q_8 : (w6.setCell ⟨w2.heap.size, 1, none⟩ (.int .i64 (-1))).frozen? ⟨w.heap.size, 0, none⟩ = false := box_free B_q 0
        replace B_b := st_box (g' := w.heap.size) (j := 0) B_b (.int .i64 (x1 : Int)) (by omega)
        replace B_q := st_same B_q 0 (.int .i64 (x1 : Int))
        replace HR := Lib.hid (rdr_set HR.out 0 (.int .i64 (x1 : Int)) N_q)
        replace HG := Lib.hid (gr_set HG.out 0 (.int .i64 (x1 : Int)) Z_q)
        replace B_q : Hid (((w6.setCell ⟨w2.heap.size, 1, none⟩ (.int .i64 (-1))).setCell ⟨w.heap.size, 0, none⟩ (.int .i64 (x1 : Int))).heap[w.heap.size]? = some (.cells #[.int .i64 (x1 : Int), .int .i64 0, .int .i64 0] 24 (0, 0))) := B_q
        have k_q_9 : ((w6.setCell ⟨w2.heap.size, 1, none⟩ (.int .i64 (-1))).setCell ⟨w.heap.size, 0, none⟩ (.int .i64 (x1 : Int))).cell? ⟨w.heap.size, 1, none⟩ = some (.int .i64 0) := box_cell B_q 1
        have y_q_9 : ((w6.setCell ⟨w2.heap.size, 1, none⟩ (.int .i64 (-1))).setCell ⟨w.heap.size, 0, none⟩ (.int .i64 (x1 : Int))).frozen? ⟨w.heap.size, 1, none⟩ = false := box_free B_q 1
        replace B_b := st_box (g' := w.heap.size) (j := 1) B_b (.int .i64 (-1)) (by omega)
        replace B_q := st_same B_q 1 (.int .i64 (-1))
        replace HR := Lib.hid (rdr_set HR.out 1 (.int .i64 (-1)) N_q)
        replace HG := Lib.hid (gr_set HG.out 1 (.int .i64 (-1)) Z_q)
        replace B_q : Hid ((((w6.setCell ⟨w2.heap.size, 1, none⟩ (.int .i64 (-1))).setCell ⟨w.heap.size, 0, none⟩ (.int .i64 (x1 : Int))).setCell ⟨w.heap.size, 1, none⟩ (.int .i64 (-1))).heap[w.heap.size]? = some (.cells #[.int .i64 (x1 : Int), .int .i64 (-1), .int .i64 0] 24 (0, 0))) := B_q
        have k_q_10 : (((w6.setCell ⟨w2.heap.size, 1, none⟩ (.int .i64 (-1))).setCell ⟨w.heap.size, 0, none⟩ (.int .i64 (x1 : Int))).setCell ⟨w.heap.size, 1, none⟩ (.int .i64 (-1))).cell? ⟨w.heap.size, 2, none⟩ = some (.int .i64 0) := box_cell B_q 2
        have y_q_10 : (((w6.setCell ⟨w2.heap.size, 1, none⟩ (.int .i64 (-1))).setCell ⟨w.heap.size, 0, none⟩ (.int .i64 (x1 : Int))).setCell ⟨w.heap.size, 1, none⟩ (.int .i64 (-1))).frozen? ⟨w.heap.size, 2, none⟩ = false := box_free B_q 2
        replace B_b := st_box (g' := w.heap.size) (j := 2) B_b (.int .i64 (x3 : Int)) (by omega)
        replace B_q := st_same B_q 2 (.int .i64 (x3 : Int))
        replace HR := Lib.hid (rdr_set HR.out 2 (.int .i64 (x3 : Int)) N_q)
        replace HG := Lib.hid (gr_set HG.out 2 (.int .i64 (x3 : Int)) Z_q)
        replace B_q : Hid (((((w6.setCell ⟨w2.heap.size, 1, none⟩ (.int .i64 (-1))).setCell ⟨w.heap.size, 0, none⟩ (.int .i64 (x1 : Int))).setCell ⟨w.heap.size, 1, none⟩ (.int .i64 (-1))).setCell ⟨w.heap.size, 2, none⟩ (.int .i64 (x3 : Int))).heap[w.heap.size]? = some (.cells #[.int .i64 (x1 : Int), .int .i64 (-1), .int .i64 (x3 : Int)] 24 (0, 0))) := B_q
        have c_q_0 : ((((w6.setCell ⟨w2.heap.size, 1, none⟩ (.int .i64 (-1))).setCell ⟨w.heap.size, 0, none⟩ (.int .i64 (x1 : Int))).setCell ⟨w.heap.size, 1, none⟩ (.int .i64 (-1))).setCell ⟨w.heap.size, 2, none⟩ (.int .i64 (x3 : Int))).cell? ⟨w.heap.size, 0, none⟩ = some (.int .i64 (x1 : Int)) := box_cell B_q 0
        have c_q_1 : ((((w6.setCell ⟨w2.heap.size, 1, none⟩ (.int .i64 (-1))).setCell ⟨w.heap.size, 0, none⟩ (.int .i64 (x1 : Int))).setCell ⟨w.heap.size, 1, none⟩ (.int .i64 (-1))).setCell ⟨w.heap.size, 2, none⟩ (.int .i64 (x3 : Int))).cell? ⟨w.heap.size, 1, none⟩ = some (.int .i64 (-1)) := box_cell B_q 1
        have c_q_2 : ((((w6.setCell ⟨w2.heap.size, 1, none⟩ (.int .i64 (-1))).setCell ⟨w.heap.size, 0, none⟩ (.int .i64 (x1 : Int))).setCell ⟨w.heap.size, 1, none⟩ (.int .i64 (-1))).setCell ⟨w.heap.size, 2, none⟩ (.int .i64 (x3 : Int))).cell? ⟨w.heap.size, 2, none⟩ = some (.int .i64 (x3 : Int)) := box_cell B_q 2
        go_wp2_with fail
        refine bodyPost_ret (v := .agg #[.int .i64 (x1 : Int), .int .i64 (-1), .int .i64 (x3 : Int)]) (by simp [results, Tryd.results26, go_sem, c_q_0, c_q_1, c_q_2]) rfl ⟨_, _, _, rfl, by omega, by omega, by omega, HR.out.mono (by omega), HG.out⟩
      | false =>
        have k_b_7 : w6.cell? ⟨w2.heap.size, 0, none⟩ = some (.int .i64 (x1 : Int)) := box_cell B_b 0
        have y_b_7 : w6.frozen? ⟨w2.heap.size, 0, none⟩ = false := box_free B_b 0
        replace B_q := st_box (g' := w2.heap.size) (j := 0) B_q (.int .i64 1000) (by omega)
        replace B_b := st_same B_b 0 (.int .i64 1000)
        replace HR := Lib.hid (rdr_set HR.out 0 (.int .i64 1000) N_b)
        replace HG := Lib.hid (gr_set HG.out 0 (.int .i64 1000) Z_b)
        replace B_b : Hid ((w6.setCell ⟨w2.heap.size, 0, none⟩ (.int .i64 1000)).heap[w2.heap.size]? = some (.cells #[.int .i64 1000, .int .i64 (x2 : Int), .int .i64 (x3 : Int)] 24 (0, 0))) := B_b
        have c_b_0 : (w6.setCell ⟨w2.heap.size, 0, none⟩ (.int .i64 1000)).cell? ⟨w2.heap.size, 0, none⟩ = some (.int .i64 1000) := box_cell B_b 0
        have c_b_1 : (w6.setCell ⟨w2.heap.size, 0, none⟩ (.int .i64 1000)).cell? ⟨w2.heap.size, 1, none⟩ = some (.int .i64 (x2 : Int)) := box_cell B_b 1
        have c_b_2 : (w6.setCell ⟨w2.heap.size, 0, none⟩ (.int .i64 1000)).cell? ⟨w2.heap.size, 2, none⟩ = some (.int .i64 (x3 : Int)) := box_cell B_b 2
        have k_q_8 : (w6.setCell ⟨w2.heap.size, 0, none⟩ (.int .i64 1000)).cell? ⟨w.heap.size, 0, none⟩ = some (.int .i64 0) := box_cell B_q 0
        have y_q_8 : (w6.setCell ⟨w2.heap.size, 0, none⟩ (.int .i64 1000)).frozen? ⟨w.heap.size, 0, none⟩ = false := box_free B_q 0
        replace B_b := st_box (g' := w.heap.size) (j := 0) B_b (.int .i64 1000) (by omega)
        replace B_q := st_same B_q 0 (.int .i64 1000)
        replace HR := Lib.hid (rdr_set HR.out 0 (.int .i64 1000) N_q)
        replace HG := Lib.hid (gr_set HG.out 0 (.int .i64 1000) Z_q)
        replace B_q : Hid (((w6.setCell ⟨w2.heap.size, 0, none⟩ (.int .i64 1000)).setCell ⟨w.heap.size, 0, none⟩ (.int .i64 1000)).heap[w.heap.size]? = some (.cells #[.int .i64 1000, .int .i64 0, .int .i64 0] 24 (0, 0))) := B_q
        have k_q_9 : ((w6.setCell ⟨w2.heap.size, 0, none⟩ (.int .i64 1000)).setCell ⟨w.heap.size, 0, none⟩ (.int .i64 1000)).cell? ⟨w.heap.size, 1, none⟩ = some (.int .i64 0) := box_cell B_q 1
        have y_q_9 : ((w6.setCell ⟨w2.heap.size, 0, none⟩ (.int .i64 1000)).setCell ⟨w.heap.size, 0, none⟩ (.int .i64 1000)).frozen? ⟨w.heap.size, 1, none⟩ = false := box_free B_q 1
        replace B_b := st_box (g' := w.heap.size) (j := 1) B_b (.int .i64 (x2 : Int)) (by omega)
        replace B_q := st_same B_q 1 (.int .i64 (x2 : Int))
        replace HR := Lib.hid (rdr_set HR.out 1 (.int .i64 (x2 : Int)) N_q)
        replace HG := Lib.hid (gr_set HG.out 1 (.int .i64 (x2 : Int)) Z_q)
        replace B_q : Hid ((((w6.setCell ⟨w2.heap.size, 0, none⟩ (.int .i64 1000)).setCell ⟨w.heap.size, 0, none⟩ (.int .i64 1000)).setCell ⟨w.heap.size, 1, none⟩ (.int .i64 (x2 : Int))).heap[w.heap.size]? = some (.cells #[.int .i64 1000, .int .i64 (x2 : Int), .int .i64 0] 24 (0, 0))) := B_q
        have k_q_10 : (((w6.setCell ⟨w2.heap.size, 0, none⟩ (.int .i64 1000)).setCell ⟨w.heap.size, 0, none⟩ (.int .i64 1000)).setCell ⟨w.heap.size, 1, none⟩ (.int .i64 (x2 : Int))).cell? ⟨w.heap.size, 2, none⟩ = some (.int .i64 0) := box_cell B_q 2
        have y_q_10 : (((w6.setCell ⟨w2.heap.size, 0, none⟩ (.int .i64 1000)).setCell ⟨w.heap.size, 0, none⟩ (.int .i64 1000)).setCell ⟨w.heap.size, 1, none⟩ (.int .i64 (x2 : Int))).frozen? ⟨w.heap.size, 2, none⟩ = false := box_free B_q 2
        replace B_b := st_box (g' := w.heap.size) (j := 2) B_b (.int .i64 (x3 : Int)) (by omega)
        replace B_q := st_same B_q 2 (.int .i64 (x3 : Int))
        replace HR := Lib.hid (rdr_set HR.out 2 (.int .i64 (x3 : Int)) N_q)
        replace HG := Lib.hid (gr_set HG.out 2 (.int .i64 (x3 : Int)) Z_q)
        replace B_q : Hid (((((w6.setCell ⟨w2.heap.size, 0, none⟩ (.int .i64 1000)).setCell ⟨w.heap.size, 0, none⟩ (.int .i64 1000)).setCell ⟨w.heap.size, 1, none⟩ (.int .i64 (x2 : Int))).setCell ⟨w.heap.size, 2, none⟩ (.int .i64 (x3 : Int))).heap[w.heap.size]? = some (.cells #[.int .i64 1000, .int .i64 (x2 : Int), .int .i64 (x3 : Int)] 24 (0, 0))) := B_q
        have c_q_0 : ((((w6.setCell ⟨w2.heap.size, 0, none⟩ (.int .i64 1000)).setCell ⟨w.heap.size, 0, none⟩ (.int .i64 1000)).setCell ⟨w.heap.size, 1, none⟩ (.int .i64 (x2 : Int))).setCell ⟨w.heap.size, 2, none⟩ (.int .i64 (x3 : Int))).cell? ⟨w.heap.size, 0, none⟩ = some (.int .i64 1000) := box_cell B_q 0
        have c_q_1 : ((((w6.setCell ⟨w2.heap.size, 0, none⟩ (.int .i64 1000)).setCell ⟨w.heap.size, 0, none⟩ (.int .i64 1000)).setCell ⟨w.heap.size, 1, none⟩ (.int .i64 (x2 : Int))).setCell ⟨w.heap.size, 2, none⟩ (.int .i64 (x3 : Int))).cell? ⟨w.heap.size, 1, none⟩ = some (.int .i64 (x2 : Int)) := box_cell B_q 1
        have c_q_2 : ((((w6.setCell ⟨w2.heap.size, 0, none⟩ (.int .i64 1000)).setCell ⟨w.heap.size, 0, none⟩ (.int .i64 1000)).setCell ⟨w.heap.size, 1, none⟩ (.int .i64 (x2 : Int))).setCell ⟨w.heap.size, 2, none⟩ (.int .i64 (x3 : Int))).cell? ⟨w.heap.size, 2, none⟩ = some (.int .i64 (x3 : Int)) := box_cell B_q 2
        go_wp2_with fail
        refine bodyPost_ret (v := .agg #[.int .i64 1000, .int .i64 (x2 : Int), .int .i64 (x3 : Int)]) (by simp [results, Tryd.results26, go_sem, c_q_0, c_q_1, c_q_2]) rfl ⟨_, _, _, rfl, by omega, by omega, by omega, HR.out.mono (by omega), HG.out⟩

set_option maxHeartbeats 2000000 in
theorem drLoads (R f : Nat) (n : Int) (w : World) (hr : Rdr w R f) (hf : f ≤ 900000) (hn0 : 1 ≤ n) (hn : n ≤ 1000) :
    Calls Tryd.prog 35 #[.pointer (some ⟨R, 0, none⟩), .int .i64 n] w (DrI 13 R (f + 13) w) := by
  have HL := Lib.hid hr.lt
  have HR := Lib.hid hr; clear hr
  have HG := Lib.hid (gr_refl w R)
  obtain ⟨i0, hi0, hz0, hz1, hz2⟩ := info_parts info_int
  have HI := Lib.hid (And.intro hi0 (And.intro hz0 (And.intro hz1 hz2))); clear hi0 hz0 hz1 hz2
  go_enter Tryd.func35, Tryd.ntmps35
  have hown0 : Hid ((w.alloc (.cells #[] 3)).ownsRow w.heap.size 3 1 (.slice (some ⟨w.heap.size, 0, none⟩) 0 0) 0 []) := World.ownsRow_lit w #[] 0 (Nat.le_refl _) (Nat.zero_le _) rfl
  go_wp2_with fail
  refine (pickC R f 9 _ (rdr_alloc HR.out _) (by omega) (by omega)).mono ?_
  rintro e w1 ⟨x1, rfl, hx1, hR, hg⟩
  replace hown0 := Lib.hid (row_dr hown0.out hg HL.out)
  replace HR := Lib.hid hR
  replace HG := Lib.hid ((gr_alloc HG.out _).trans hg)
  clear hR hg
  have hx1' : x1 ≤ 8 := by omega
  clear hx1
  go_wp2_with fail
  go_loopw [5, 6] (fun v i wr => ∃ (k : Nat) (acc : List Int), k ≤ 8 ∧ i = .int .i64 k ∧ acc.length + k ≤ 8 ∧ (∃ B c', v = .slice B acc.length c' ∧ wr.ownsRow w.heap.size 3 1 (.slice B acc.length c') acc.length (ints acc)) ∧ Hid (Rdr wr R (f + 1 + (8 - k))) ∧ Hid (w.grownBy wr (some R))) (fun _ i _ => (intOf i).toNat)
  case atStart => exact ⟨x1, [], by omega, rfl, by simp; omega, ⟨_, _, rfl, hown0.out⟩, Lib.hid (HR.out.mono (by omega)), HG⟩
  case round =>
    clear HR HG hown0
    obtain ⟨k, acc, hk, rfl, hacc, ⟨B, c', rfl, hown⟩, HR, HG⟩ := hrel
    by_cases hlt : 0 < k
    · go_wp2_with fail
      refine (pickC R _ 40 _ HR.out (by omega) (by omega)).mono ?_
      rintro e w2 ⟨x, rfl, hx, hR, hg⟩
      replace hown := row_dr hown hg HL.out
      replace HR := Lib.hid hR
      replace HG := Lib.hid (HG.out.trans hg)
      clear hR hg hx
      go_wp2_with (at_builtin; refine wpList_app1 w2 rfl _ _ _ rfl w.heap.size 3 i0 _ 1 8 Tryd.underlying29 HI.out rfl (by omega) (.slice B acc.length c') acc.length (ints acc) rfl hown #[.int .i64 (x : Int)] rfl rfl (by simp [Value.oneCell']) (by omega) (by omega) HG.out.size ?_; intro v' w9 hown9 hg9)
      have HR9 := Lib.hid (rdr_row HR.out hown hg9 HL.out)
      have HG9 := Lib.hid (gr_row HG.out hown hg9 (Nat.le_refl _))
      have hsn := snoc_ints hown9 rfl
      clear hg9 hown hown9
      go_roundw
      case rel => exact ⟨k - 1, acc ++ [(x : Int)], by omega, by rw [Int.ofNat_sub (by omega)]; rfl, by simp; omega, hsn, Lib.hid (HR9.out.mono (by omega)), HG9⟩
      case measure => simp [intOf]; omega
    · go_wp2_with fail
      refine (oddC R _ n _ HR.out (by omega) (by omega) (by omega)).mono ?_
      rintro e w2 ⟨bb, rfl, hR, hg⟩
      replace hown := row_dr hown hg HL.out
      replace HR := Lib.hid hR
      replace HG := Lib.hid (HG.out.trans hg)
      clear hR hg
      cases bb with
      | false =>
        go_wp2_with fail
        go_ret
        exact ⟨acc, B, c', rfl, by omega, row_fm hown, row_own hown, HR.out.mono (by omega), HG.out⟩
      | true =>
        go_wp2_with fail
        refine (pickC R _ 2 _ HR.out (by omega) (by omega)).mono ?_
        rintro e w3 ⟨x, rfl, hx, hR, hg⟩
        replace hown := row_dr hown hg HL.out
        replace HR := Lib.hid hR
        replace HG := Lib.hid (HG.out.trans hg)
        clear hR hg
        cases e0 : ((x : Int) == 0) with
        | true =>
          go_wp2_with (at_make; refine wpList_make_full _ rfl _ _ _ rfl w.heap.size 3 i0 (.int .i64 0) 1 Tryd.underlying29 HI.out.1 HI.out.2.1 HI.out.2.2.1 .i64 .i64 13 13 13 rfl rfl rfl rfl (by rw [HI.out.2.2.2]; omega) (by unfold maxLen; omega) HG.out.size ?_; intro w4 hown4 hgr)
          go_ret
          refine ⟨List.replicate 13 0, some ⟨w3.heap.size, 0, none⟩, 13, rfl, by simp, ⟨by simp, .inr ⟨_, rfl⟩⟩, ?_, (HR.out.kept hgr (by simp)).mono (by omega), HG.out.andThen hgr (by simp)⟩
          have := row_own hown4
          simpa [Value.cells, toList_madeCells_one, ints] using this
        | false =>
          have hxe : x = 1 := by have := beq_eq_false_iff_ne.1 e0; omega
          go_wp2_with fail
          refine (pickC R _ 2 _ (rdr_alloc HR.out _) (by omega) (by omega)).mono ?_
          rintro e w4 ⟨y, rfl, hy, hR, hg⟩
          have hbl : w4.heap[w3.heap.size]? = some (.cells #[.int .i64 (-1), .int .i64 1000] 3 (0, 0)) := (hg.block _ (by simp) (by simp; have := blk_lt_rdr HR.out; omega)).trans (heap_alloc_new w3 _)
          have hc0 : w4.cell? ⟨w3.heap.size, 0, none⟩ = some (.int .i64 (-1)) := cell_of_row _ _ 0 _ _ (0, 0) hbl
          have hc1 : w4.cell? ⟨w3.heap.size, 1, none⟩ = some (.int .i64 1000) := cell_of_row _ _ 1 _ _ (0, 0) hbl
          clear hbl
          replace hown := row_dr (hown.alloc _) hg HL.out
          replace HR := Lib.hid hR
          replace HG := Lib.hid ((gr_alloc HG.out _).trans hg)
          clear hR hg
          obtain rfl | rfl : y = 0 ∨ y = 1 := by omega
          · go_wp2_with (at_builtin; refine wpList_app1 w4 rfl _ _ _ rfl w.heap.size 3 i0 _ 1 8 Tryd.underlying29 HI.out rfl (by omega) (.slice B acc.length c') acc.length (ints acc) rfl hown #[.int .i64 (-1)] rfl rfl (by simp [Value.oneCell']) (by omega) (by omega) HG.out.size ?_; intro v' w9 hown9 hg9)
            obtain ⟨B2, c2, rfl, hsn⟩ := snoc_ints hown9 rfl
            go_ret
            exact ⟨acc ++ [-1], B2, c2, rfl, by simp; omega, row_fm hsn, row_own hsn, (rdr_row HR.out hown hg9 HL.out).mono (by omega), gr_row HG.out hown hg9 (Nat.le_refl _)⟩
          · go_wp2_with (at_builtin; refine wpList_app1 w4 rfl _ _ _ rfl w.heap.size 3 i0 _ 1 8 Tryd.underlying29 HI.out rfl (by omega) (.slice B acc.length c') acc.length (ints acc) rfl hown #[.int .i64 1000] rfl rfl (by simp [Value.oneCell']) (by omega) (by omega) HG.out.size ?_; intro v' w9 hown9 hg9)
            obtain ⟨B2, c2, rfl, hsn⟩ := snoc_ints hown9 rfl
            go_ret
            exact ⟨acc ++ [1000], B2, c2, rfl, by simp; omega, row_fm hsn, row_own hsn, (rdr_row HR.out hown hg9 HL.out).mono (by omega), gr_row HG.out hown hg9 (Nat.le_refl _)⟩

def DBat (w : World) (e : Ending) (w' : World) : Prop := ∃ s r l : Int, e = .returned (.agg #[.int .i64 s, .int .i64 r, .int .i64 l]) ∧ (0 ≤ s ∧ s ≤ 1000) ∧ (-1 ≤ r ∧ r ≤ 1000) ∧ (0 ≤ l ∧ l ≤ 1000) ∧ Below w.heap.size w w'
set_option maxHeartbeats 1000000 in
theorem dBV (A : Option Addr) (m c : Nat) (w : World) (hc : m ≤ c) (hm : m ≤ 1048576) (hA : RdB w A m) : Calls Tryd.prog 8 #[.slice A m c] w (DBat w) := by
  have HB := Lib.hid hA; clear hA
  have HG := Lib.hid (Below.refl w.heap.size w)
  go_enter Tryd.func8, Tryd.ntmps8
  have B_q := new_box w (.cells #[.int .i64 0, .int .i64 0, .int .i64 0] 24)
  have Z_q : w.heap.size ≤ w.heap.size := by have := HG.out.size; first | omega | (simp at this; omega) | (simp at this ⊢; omega)
  replace HG := Lib.hid (allocB HG.out (.cells #[.int .i64 0, .int .i64 0, .int .i64 0] 24))
  go_wp2_with fail
  refine (openC _ _ _ _ hc hm (rdb_below HB.out HG.out)).mono ?_
  rintro e w1 ⟨rfl, hR, hbn⟩
  have NR_q := blk_lt B_q.out
  replace B_q := be_box B_q hbn
  have HRw := HG.out.size
  replace HG := Lib.hid (seqB HG.out hbn)
  have HR := Lib.hid hR
  clear hbn hR HB
  generalize hRe : (w.alloc (.cells #[.int .i64 0, .int .i64 0, .int .i64 0] 24)).heap.size = R at HR HRw NR_q ⊢
  clear hRe
  go_wp2_with fail
  refine (drBattery R 0 2 _ HR.out (by omega) (by omega) (by omega)).mono ?_
  rintro e w2 ⟨s, r, l, rfl, hs, hr, hl, hR, hg⟩
  replace B_q := dr_box B_q hg (by omega)
  replace HR := Lib.hid hR
  replace HG := Lib.hid (gr_below HG.out hg HRw)
  clear hR hg
  have k_q_3 : w2.cell? ⟨w.heap.size, 0, none⟩ = some (.int .i64 0) := box_cell B_q 0
  have y_q_3 : w2.frozen? ⟨w.heap.size, 0, none⟩ = false := box_free B_q 0
  replace B_q := st_same B_q 0 (.int .i64 s)
  replace HG := Lib.hid (be_set (g := w.heap.size) (j := 0) (u := .int .i64 s) HG.out  Z_q)
  replace B_q : Hid ((w2.setCell ⟨w.heap.size, 0, none⟩ (.int .i64 s)).heap[w.heap.size]? = some (.cells #[.int .i64 s, .int .i64 0, .int .i64 0] 24 (0, 0))) := B_q
  have k_q_4 : (w2.setCell ⟨w.heap.size, 0, none⟩ (.int .i64 s)).cell? ⟨w.heap.size, 1, none⟩ = some (.int .i64 0) := box_cell B_q 1
  have y_q_4 : (w2.setCell ⟨w.heap.size, 0, none⟩ (.int .i64 s)).frozen? ⟨w.heap.size, 1, none⟩ = false := box_free B_q 1
  replace B_q := st_same B_q 1 (.int .i64 r)
  replace HG := Lib.hid (be_set (g := w.heap.size) (j := 1) (u := .int .i64 r) HG.out  Z_q)
  replace B_q : Hid (((w2.setCell ⟨w.heap.size, 0, none⟩ (.int .i64 s)).setCell ⟨w.heap.size, 1, none⟩ (.int .i64 r)).heap[w.heap.size]? = some (.cells #[.int .i64 s, .int .i64 r, .int .i64 0] 24 (0, 0))) := B_q
  have k_q_5 : ((w2.setCell ⟨w.heap.size, 0, none⟩ (.int .i64 s)).setCell ⟨w.heap.size, 1, none⟩ (.int .i64 r)).cell? ⟨w.heap.size, 2, none⟩ = some (.int .i64 0) := box_cell B_q 2
  have y_q_5 : ((w2.setCell ⟨w.heap.size, 0, none⟩ (.int .i64 s)).setCell ⟨w.heap.size, 1, none⟩ (.int .i64 r)).frozen? ⟨w.heap.size, 2, none⟩ = false := box_free B_q 2
  replace B_q := st_same B_q 2 (.int .i64 l)
  replace HG := Lib.hid (be_set (g := w.heap.size) (j := 2) (u := .int .i64 l) HG.out  Z_q)
  replace B_q : Hid ((((w2.setCell ⟨w.heap.size, 0, none⟩ (.int .i64 s)).setCell ⟨w.heap.size, 1, none⟩ (.int .i64 r)).setCell ⟨w.heap.size, 2, none⟩ (.int .i64 l)).heap[w.heap.size]? = some (.cells #[.int .i64 s, .int .i64 r, .int .i64 l] 24 (0, 0))) := B_q
  have c_q_0 : (((w2.setCell ⟨w.heap.size, 0, none⟩ (.int .i64 s)).setCell ⟨w.heap.size, 1, none⟩ (.int .i64 r)).setCell ⟨w.heap.size, 2, none⟩ (.int .i64 l)).cell? ⟨w.heap.size, 0, none⟩ = some (.int .i64 s) := box_cell B_q 0
  have c_q_1 : (((w2.setCell ⟨w.heap.size, 0, none⟩ (.int .i64 s)).setCell ⟨w.heap.size, 1, none⟩ (.int .i64 r)).setCell ⟨w.heap.size, 2, none⟩ (.int .i64 l)).cell? ⟨w.heap.size, 1, none⟩ = some (.int .i64 r) := box_cell B_q 1
  have c_q_2 : (((w2.setCell ⟨w.heap.size, 0, none⟩ (.int .i64 s)).setCell ⟨w.heap.size, 1, none⟩ (.int .i64 r)).setCell ⟨w.heap.size, 2, none⟩ (.int .i64 l)).cell? ⟨w.heap.size, 2, none⟩ = some (.int .i64 l) := box_cell B_q 2
  go_wp2_with fail
  refine bodyPost_ret (v := .agg #[.int .i64 s, .int .i64 r, .int .i64 l]) (by simp [results, Tryd.results8, go_sem, c_q_0, c_q_1, c_q_2]) rfl ⟨s, r, l, rfl, hs, hr, hl, HG.out⟩

/-- an hour of a plan, kept within what the battery allows -/
def clampB (s r l x : Int) : Int := (if s - l < (if r < (if (if x < -r then -r else x) < -l then -l else (if x < -r then -r else x)) then r else (if (if x < -r then -r else x) < -l then -l else (if x < -r then -r else x))) then s - l else (if r < (if (if x < -r then -r else x) < -l then -l else (if x < -r then -r else x)) then r else (if (if x < -r then -r else x) < -l then -l else (if x < -r then -r else x))))
theorem clamp_eq (s r l x : Int) : (if s - l < (if r < (if (if x < -r then -r else x) < -l then -l else (if x < -r then -r else x)) then r else (if (if x < -r then -r else x) < -l then -l else (if x < -r then -r else x))) then s - l else (if r < (if (if x < -r then -r else x) < -l then -l else (if x < -r then -r else x)) then r else (if (if x < -r then -r else x) < -l then -l else (if x < -r then -r else x)))) = clampB s r l x := rfl
theorem clamp_in {s r l x L : Int} (hs : 0 ≤ s ∧ s ≤ 1000) (hr : -1 ≤ r ∧ r ≤ 1000) (hx : -12 ≤ x ∧ x ≤ 12) (hl : -L ≤ l ∧ l ≤ L) (hL : 1000 ≤ L) : (-(L + 1000) ≤ clampB s r l x ∧ clampB s r l x ≤ L + 1000) ∧ (-(L + 1000) ≤ l + clampB s r l x ∧ l + clampB s r l x ≤ L + 1000) := by
  unfold clampB
  repeat' split
  all_goals omega
set_option maxHeartbeats 2000000 in
theorem drPlan (R f : Nat) (s r l : Int) (H : Nat) (w : World) (hr : Rdr w R f) (hf : f ≤ 900000) (hs : 0 ≤ s ∧ s ≤ 1000) (hrr : -1 ≤ r ∧ r ≤ 1000) (hll : 0 ≤ l ∧ l ≤ 1000) (hH : H ≤ 14) :
    Calls Tryd.prog 33 #[.pointer (some ⟨R, 0, none⟩), .agg #[.int .i64 s, .int .i64 r, .int .i64 l], .int .i64 (H : Int)] w (DrI 14 R (f + 28) w) := by
  have HL := Lib.hid hr.lt
  have HR := Lib.hid hr; clear hr
  have HG := Lib.hid (gr_refl w R)
  obtain ⟨i0, hi0, hz0, hz1, hz2⟩ := info_parts info_int
  have HI := Lib.hid (And.intro hi0 (And.intro hz0 (And.intro hz1 hz2))); clear hi0 hz0 hz1 hz2
  go_enter Tryd.func33, Tryd.ntmps33
  have hown0 : Hid (((w.alloc (.cells #[.int .i64 s, .int .i64 r, .int .i64 l] 24)).alloc (.cells #[] 3)).ownsRow (w.heap.size + 1) 3 1 (.slice (some ⟨w.heap.size + 1, 0, none⟩) 0 0) 0 []) := by
    rw [Hid]
    have := World.ownsRow_lit (base := w.heap.size + 1) (e := 3) (size := 1) (w.alloc (.cells #[.int .i64 s, .int .i64 r, .int .i64 l] 24)) #[] 0 (by simp) (Nat.zero_le _) rfl
    simpa using this
  have B_b := al_box (new_box w (.cells #[.int .i64 s, .int .i64 r, .int .i64 l] 24)) (.cells #[] 3)
  replace HR := Lib.hid (rdr_alloc (rdr_alloc HR.out (.cells #[.int .i64 s, .int .i64 r, .int .i64 l] 24)) (.cells #[] 3))
  replace HG := Lib.hid (gr_alloc (gr_alloc HG.out (.cells #[.int .i64 s, .int .i64 r, .int .i64 l] 24)) (.cells #[] 3))
  go_wp2_with fail
  go_loopw [7, 8, 9] (fun v lv i wr => ∃ (k : Nat) (y : Int) (acc : List Int), k ≤ H ∧ i = .int .i64 k ∧ lv = .int .i64 y ∧ (-(1000 * ((k : Int) + 1)) ≤ y ∧ y ≤ 1000 * ((k : Int) + 1)) ∧ acc.length ≤ k ∧ (∃ B c', v = .slice B acc.length c' ∧ wr.ownsRow (w.heap.size + 1) 3 1 (.slice B acc.length c') acc.length (ints acc)) ∧
      Hid (wr.heap[w.heap.size]? = some (.cells #[.int .i64 s, .int .i64 r, .int .i64 l] 24 (0, 0))) ∧ Hid (Rdr wr R (f + 2 * k)) ∧ Hid (w.grownBy wr (some R))) (fun _ _ i _ => H - (intOf i).toNat)
  case atStart => exact ⟨0, l, [], by omega, rfl, rfl, by omega, by simp, ⟨_, _, rfl, hown0.out⟩, B_b, Lib.hid (HR.out.mono (by omega)), HG⟩
  case round =>
    clear HR HG hown0 B_b
    obtain ⟨k, y, acc, hk, rfl, rfl, hy, hacc, ⟨B, c', rfl, hown⟩, B_b, HR, HG⟩ := hrel
    by_cases hlt : k < H
    · go_wp2_with fail
      refine (pickC R _ 25 _ HR.out (by omega) (by omega)).mono ?_
      rintro e w2 ⟨x, rfl, hx, hR, hg⟩
      replace B_b := dr_box B_b hg (by have := HL.out; omega)
      replace hown := row_dr hown hg (by have := HL.out; omega)
      replace HR := Lib.hid hR
      replace HG := Lib.hid (HG.out.trans hg)
      clear hR hg
      go_wp2_with fail
      refine (pickC R _ 12 _ HR.out (by omega) (by omega)).mono ?_
      rintro e w3 ⟨x2, rfl, hx2, hR, hg⟩
      replace B_b := dr_box B_b hg (by have := HL.out; omega)
      replace hown := row_dr hown hg (by have := HL.out; omega)
      replace HR := Lib.hid hR
      replace HG := Lib.hid (HG.out.trans hg)
      clear hR hg
      have c0 : w3.cell? ⟨w.heap.size, 0, none⟩ = some (.int .i64 s) := box_cell B_b 0
      have c1 : w3.cell? ⟨w.heap.size, 1, none⟩ = some (.int .i64 r) := box_cell B_b 1
      have hZ : w.heap.size + 1 ≤ w3.heap.size := blk_lt B_b.out
      have hxx : -12 ≤ (x : Int) - 12 ∧ (x : Int) - 12 ≤ 12 := by omega
      generalize (x : Int) - 12 = z at *
      clear hx
      by_cases hpos : 0 < x2
      · have hd : decide ((0 : Int) < (x2 : Int)) = true := by simp; omega
        have hd' : decide (0 < x2) = true := by simp; omega
        have hci := clamp_in (L := 1000 * ((k : Int) + 1)) hs hrr hxx hy (by omega)
        go_upto_region 9 with (fail)
        rw [clamp_eq]
        generalize clampB s r y z = t at *
        clear c0 c1
        go_wp2_with (at_builtin; refine wpList_app1 w3 rfl _ _ _ rfl (w.heap.size + 1) 3 i0 _ 1 8 Tryd.underlying29 HI.out rfl (by omega) (.slice B acc.length c') acc.length (ints acc) rfl hown #[.int .i64 t] rfl rfl (by simp [Value.oneCell']) (by omega) (by omega) hZ ?_; intro v' w9 hown9 hg9)
        have HR9 := Lib.hid (rdr_row HR.out hown hg9 (by have := HL.out; omega))
        have HG9 := Lib.hid (gr_row HG.out hown hg9 (by omega))
        have B9 := Lib.hid (block_grown B_b.out hown hg9 (by omega))
        have hsn := snoc_ints hown9 rfl
        clear hg9 hown hown9
        go_roundw
        case rel => exact ⟨k + 1, y + t, acc ++ [t], by omega, by go_num, rfl, by omega, by simp; omega, hsn, B9, Lib.hid (HR9.out.mono (by omega)), HG9⟩
        case measure => simp [intOf]; omega
      · have hd : decide ((0 : Int) < (x2 : Int)) = false := by simp; omega
        have hd' : decide (0 < x2) = false := by simp; omega
        go_wp2_with (at_builtin; refine wpList_app1 w3 rfl _ _ _ rfl (w.heap.size + 1) 3 i0 _ 1 8 Tryd.underlying29 HI.out rfl (by omega) (.slice B acc.length c') acc.length (ints acc) rfl hown #[.int .i64 z] rfl rfl (by simp [Value.oneCell']) (by omega) (by omega) hZ ?_; intro v' w9 hown9 hg9)
        have HR9 := Lib.hid (rdr_row HR.out hown hg9 (by have := HL.out; omega))
        have HG9 := Lib.hid (gr_row HG.out hown hg9 (by omega))
        have B9 := Lib.hid (block_grown B_b.out hown hg9 (by omega))
        have hsn := snoc_ints hown9 rfl
        clear hg9 hown hown9
        go_roundw
        case rel => exact ⟨k + 1, y + z, acc ++ [z], by omega, by go_num, rfl, by omega, by simp; omega, hsn, B9, Lib.hid (HR9.out.mono (by omega)), HG9⟩
        case measure => simp [intOf]; omega
    · go_wp2_with fail
      go_ret
      exact ⟨acc, B, c', rfl, by omega, row_fm hown, (row_own hown).mono (by omega), HR.out.mono (by omega), HG.out⟩

/-- a battery and ints -/
def DBatI (m' : Nat) (w : World) (e : Ending) (w' : World) : Prop := ∃ (s r l : Int) (xs : List Int) (B : Option Addr) (c : Nat), e = .returned (.tuple #[.agg #[.int .i64 s, .int .i64 r, .int .i64 l], .slice B xs.length c]) ∧ xs.length ≤ m' ∧ Fm B xs.length c ∧ Own w' w.heap.size 3 1 B xs.length (ints xs) ∧ Below w.heap.size w w'
def DBatIN (w : World) (e : Ending) (w' : World) : Prop := ∃ (s r l : Int) (xs : List Int) (B : Option Addr) (c : Nat) (p : Int), e = .returned (.tuple #[.agg #[.int .i64 s, .int .i64 r, .int .i64 l], .slice B xs.length c, .int .i64 p]) ∧ (-1000 ≤ p ∧ p ≤ 1000) ∧ xs.length ≤ 13 ∧ Own w' w.heap.size 3 1 B xs.length (ints xs) ∧ Below w.heap.size w w'

set_option maxHeartbeats 1000000 in
theorem dDrawLeastPeak (A : Option Addr) (m c : Nat) (w : World) (hc : m ≤ c) (hm : m ≤ 1048576) (hA : RdB w A m) : Calls Tryd.prog 23 #[.slice A m c] w (DBatI 13 w) := by
  have HB := Lib.hid hA; clear hA
  have HG := Lib.hid (Below.refl w.heap.size w)
  go_enter Tryd.func23, Tryd.ntmps23
  have B_q := new_box w (.cells #[.int .i64 0, .int .i64 0, .int .i64 0] 24)
  have Z_q : w.heap.size ≤ w.heap.size := by have := HG.out.size; first | omega | (simp at this; omega) | (simp at this ⊢; omega)
  replace HG := Lib.hid (allocB HG.out (.cells #[.int .i64 0, .int .i64 0, .int .i64 0] 24))
  go_wp2_with fail
  refine (openC _ _ _ _ hc hm (rdb_below HB.out HG.out)).mono ?_
  rintro e w1 ⟨rfl, hR, hbn⟩
  have NR_q := blk_lt B_q.out
  replace B_q := be_box B_q hbn
  have HRw := HG.out.size
  replace HG := Lib.hid (seqB HG.out hbn)
  have HR := Lib.hid hR
  clear hbn hR HB
  generalize hRe : (w.alloc (.cells #[.int .i64 0, .int .i64 0, .int .i64 0] 24)).heap.size = R at HR HRw NR_q ⊢
  clear hRe
  go_wp2_with fail
  refine (drBattery R 0 9 _ HR.out (by omega) (by omega) (by omega)).mono ?_
  rintro e w2 ⟨s, r, l, rfl, hs, hr, hl, hR, hg⟩
  replace B_q := dr_box B_q hg (by omega)
  replace HR := Lib.hid hR
  replace HG := Lib.hid (gr_below HG.out hg HRw)
  clear hR hg
  have hlR := HR.out.lt
  have hqR := blk_lt B_q.out
  have hz_xs := HG.out.size
  go_wp2_with fail
  refine (drLoads R _ 9 _ HR.out (by omega) (by omega) (by omega)).mono ?_
  rintro e w3 ⟨xs, Bxs, cxs, rfl, hl_xs, hF_xs, ho, hR, hg⟩
  replace B_q := dr_box B_q hg (by omega)
  replace HR := Lib.hid hR
  replace HG := Lib.hid (gr_below HG.out hg HRw)
  clear hR hg
  have O_xs := Lib.hid ho; clear ho
  have r_xs := hlR; have q_xs := hqR; clear hlR hqR
  have k_q_4 : w3.cell? ⟨w.heap.size, 0, none⟩ = some (.int .i64 0) := box_cell B_q 0
  have y_q_4 : w3.frozen? ⟨w.heap.size, 0, none⟩ = false := box_free B_q 0
  replace O_xs := Lib.hid (own_set (g := w.heap.size) (j := 0) (u := .int .i64 s) O_xs.out (by omega))
  replace B_q := st_same B_q 0 (.int .i64 s)
  replace HG := Lib.hid (be_set (g := w.heap.size) (j := 0) (u := .int .i64 s) HG.out  Z_q)
  replace B_q : Hid ((w3.setCell ⟨w.heap.size, 0, none⟩ (.int .i64 s)).heap[w.heap.size]? = some (.cells #[.int .i64 s, .int .i64 0, .int .i64 0] 24 (0, 0))) := B_q
  have k_q_5 : (w3.setCell ⟨w.heap.size, 0, none⟩ (.int .i64 s)).cell? ⟨w.heap.size, 1, none⟩ = some (.int .i64 0) := box_cell B_q 1
  have y_q_5 : (w3.setCell ⟨w.heap.size, 0, none⟩ (.int .i64 s)).frozen? ⟨w.heap.size, 1, none⟩ = false := box_free B_q 1
  replace O_xs := Lib.hid (own_set (g := w.heap.size) (j := 1) (u := .int .i64 r) O_xs.out (by omega))
  replace B_q := st_same B_q 1 (.int .i64 r)
  replace HG := Lib.hid (be_set (g := w.heap.size) (j := 1) (u := .int .i64 r) HG.out  Z_q)
  replace B_q : Hid (((w3.setCell ⟨w.heap.size, 0, none⟩ (.int .i64 s)).setCell ⟨w.heap.size, 1, none⟩ (.int .i64 r)).heap[w.heap.size]? = some (.cells #[.int .i64 s, .int .i64 r, .int .i64 0] 24 (0, 0))) := B_q
  have k_q_6 : ((w3.setCell ⟨w.heap.size, 0, none⟩ (.int .i64 s)).setCell ⟨w.heap.size, 1, none⟩ (.int .i64 r)).cell? ⟨w.heap.size, 2, none⟩ = some (.int .i64 0) := box_cell B_q 2
  have y_q_6 : ((w3.setCell ⟨w.heap.size, 0, none⟩ (.int .i64 s)).setCell ⟨w.heap.size, 1, none⟩ (.int .i64 r)).frozen? ⟨w.heap.size, 2, none⟩ = false := box_free B_q 2
  replace O_xs := Lib.hid (own_set (g := w.heap.size) (j := 2) (u := .int .i64 l) O_xs.out (by omega))
  replace B_q := st_same B_q 2 (.int .i64 l)
  replace HG := Lib.hid (be_set (g := w.heap.size) (j := 2) (u := .int .i64 l) HG.out  Z_q)
  replace B_q : Hid ((((w3.setCell ⟨w.heap.size, 0, none⟩ (.int .i64 s)).setCell ⟨w.heap.size, 1, none⟩ (.int .i64 r)).setCell ⟨w.heap.size, 2, none⟩ (.int .i64 l)).heap[w.heap.size]? = some (.cells #[.int .i64 s, .int .i64 r, .int .i64 l] 24 (0, 0))) := B_q
  have c_q_0 : (((w3.setCell ⟨w.heap.size, 0, none⟩ (.int .i64 s)).setCell ⟨w.heap.size, 1, none⟩ (.int .i64 r)).setCell ⟨w.heap.size, 2, none⟩ (.int .i64 l)).cell? ⟨w.heap.size, 0, none⟩ = some (.int .i64 s) := box_cell B_q 0
  have c_q_1 : (((w3.setCell ⟨w.heap.size, 0, none⟩ (.int .i64 s)).setCell ⟨w.heap.size, 1, none⟩ (.int .i64 r)).setCell ⟨w.heap.size, 2, none⟩ (.int .i64 l)).cell? ⟨w.heap.size, 1, none⟩ = some (.int .i64 r) := box_cell B_q 1
  have c_q_2 : (((w3.setCell ⟨w.heap.size, 0, none⟩ (.int .i64 s)).setCell ⟨w.heap.size, 1, none⟩ (.int .i64 r)).setCell ⟨w.heap.size, 2, none⟩ (.int .i64 l)).cell? ⟨w.heap.size, 2, none⟩ = some (.int .i64 l) := box_cell B_q 2
  go_wp2_with fail
  refine bodyPost_ret (v := .tuple #[.agg #[.int .i64 s, .int .i64 r, .int .i64 l], .slice Bxs xs.length cxs]) (by simp [results, Tryd.results23, go_sem, c_q_0, c_q_1, c_q_2]) rfl ⟨s, r, l, xs, Bxs, cxs, rfl, hl_xs, hF_xs, O_xs.out.mono (by omega), HG.out⟩
set_option maxHeartbeats 1000000 in
theorem dDrawPeakPlan (A : Option Addr) (m c : Nat) (w : World) (hc : m ≤ c) (hm : m ≤ 1048576) (hA : RdB w A m) : Calls Tryd.prog 19 #[.slice A m c] w (DBatIN w) := by
  have HB := Lib.hid hA; clear hA
  have HG := Lib.hid (Below.refl w.heap.size w)
  go_enter Tryd.func19, Tryd.ntmps19
  have B_q := new_box w (.cells #[.int .i64 0, .int .i64 0, .int .i64 0] 24)
  have Z_q : w.heap.size ≤ w.heap.size := by have := HG.out.size; first | omega | (simp at this; omega) | (simp at this ⊢; omega)
  replace HG := Lib.hid (allocB HG.out (.cells #[.int .i64 0, .int .i64 0, .int .i64 0] 24))
  go_wp2_with fail
  refine (openC _ _ _ _ hc hm (rdb_below HB.out HG.out)).mono ?_
  rintro e w1 ⟨rfl, hR, hbn⟩
  have NR_q := blk_lt B_q.out
  replace B_q := be_box B_q hbn
  have HRw := HG.out.size
  replace HG := Lib.hid (seqB HG.out hbn)
  have HR := Lib.hid hR
  clear hbn hR HB
  generalize hRe : (w.alloc (.cells #[.int .i64 0, .int .i64 0, .int .i64 0] 24)).heap.size = R at HR HRw NR_q ⊢
  clear hRe
  go_wp2_with fail
  refine (drBattery R 0 9 _ HR.out (by omega) (by omega) (by omega)).mono ?_
  rintro e w2 ⟨s, r, l, rfl, hs, hr, hl, hR, hg⟩
  replace B_q := dr_box B_q hg (by omega)
  replace HR := Lib.hid hR
  replace HG := Lib.hid (gr_below HG.out hg HRw)
  clear hR hg
  have hlR := HR.out.lt
  have hqR := blk_lt B_q.out
  have hz_xs := HG.out.size
  go_wp2_with fail
  refine (drLoads R _ 9 _ HR.out (by omega) (by omega) (by omega)).mono ?_
  rintro e w3 ⟨xs, Bxs, cxs, rfl, hl_xs, hF_xs, ho, hR, hg⟩
  replace B_q := dr_box B_q hg (by omega)
  replace HR := Lib.hid hR
  replace HG := Lib.hid (gr_below HG.out hg HRw)
  clear hR hg
  have O_xs := Lib.hid ho; clear ho
  have r_xs := hlR; have q_xs := hqR; clear hlR hqR
  go_wp2_with fail
  refine (pickC R _ 45 _ HR.out (by omega) (by omega)).mono ?_
  rintro e w4 ⟨p1, rfl, hx_p1, hR, hg⟩
  replace B_q := dr_box B_q hg (by omega)
  replace O_xs := Lib.hid (own_dr O_xs.out hg r_xs)
  replace HR := Lib.hid hR
  replace HG := Lib.hid (gr_below HG.out hg HRw)
  clear hR hg
  go_wp2_with fail
  refine (pickC R _ 12 _ HR.out (by omega) (by omega)).mono ?_
  rintro e w5 ⟨p2, rfl, hx_p2, hR, hg⟩
  replace B_q := dr_box B_q hg (by omega)
  replace O_xs := Lib.hid (own_dr O_xs.out hg r_xs)
  replace HR := Lib.hid hR
  replace HG := Lib.hid (gr_below HG.out hg HRw)
  clear hR hg
  have hp12 : (0 : Int) ≤ (p2 : Int) / 11 ∧ (p2 : Int) / 11 ≤ 1 := by omega
  have k_q_6 : w5.cell? ⟨w.heap.size, 0, none⟩ = some (.int .i64 0) := box_cell B_q 0
  have y_q_6 : w5.frozen? ⟨w.heap.size, 0, none⟩ = false := box_free B_q 0
  replace O_xs := Lib.hid (own_set (g := w.heap.size) (j := 0) (u := .int .i64 s) O_xs.out (by omega))
  replace B_q := st_same B_q 0 (.int .i64 s)
  replace HG := Lib.hid (be_set (g := w.heap.size) (j := 0) (u := .int .i64 s) HG.out  Z_q)
  replace B_q : Hid ((w5.setCell ⟨w.heap.size, 0, none⟩ (.int .i64 s)).heap[w.heap.size]? = some (.cells #[.int .i64 s, .int .i64 0, .int .i64 0] 24 (0, 0))) := B_q
  have k_q_7 : (w5.setCell ⟨w.heap.size, 0, none⟩ (.int .i64 s)).cell? ⟨w.heap.size, 1, none⟩ = some (.int .i64 0) := box_cell B_q 1
  have y_q_7 : (w5.setCell ⟨w.heap.size, 0, none⟩ (.int .i64 s)).frozen? ⟨w.heap.size, 1, none⟩ = false := box_free B_q 1
  replace O_xs := Lib.hid (own_set (g := w.heap.size) (j := 1) (u := .int .i64 r) O_xs.out (by omega))
  replace B_q := st_same B_q 1 (.int .i64 r)
  replace HG := Lib.hid (be_set (g := w.heap.size) (j := 1) (u := .int .i64 r) HG.out  Z_q)
  replace B_q : Hid (((w5.setCell ⟨w.heap.size, 0, none⟩ (.int .i64 s)).setCell ⟨w.heap.size, 1, none⟩ (.int .i64 r)).heap[w.heap.size]? = some (.cells #[.int .i64 s, .int .i64 r, .int .i64 0] 24 (0, 0))) := B_q
  have k_q_8 : ((w5.setCell ⟨w.heap.size, 0, none⟩ (.int .i64 s)).setCell ⟨w.heap.size, 1, none⟩ (.int .i64 r)).cell? ⟨w.heap.size, 2, none⟩ = some (.int .i64 0) := box_cell B_q 2
  have y_q_8 : ((w5.setCell ⟨w.heap.size, 0, none⟩ (.int .i64 s)).setCell ⟨w.heap.size, 1, none⟩ (.int .i64 r)).frozen? ⟨w.heap.size, 2, none⟩ = false := box_free B_q 2
  replace O_xs := Lib.hid (own_set (g := w.heap.size) (j := 2) (u := .int .i64 l) O_xs.out (by omega))
  replace B_q := st_same B_q 2 (.int .i64 l)
  replace HG := Lib.hid (be_set (g := w.heap.size) (j := 2) (u := .int .i64 l) HG.out  Z_q)
  replace B_q : Hid ((((w5.setCell ⟨w.heap.size, 0, none⟩ (.int .i64 s)).setCell ⟨w.heap.size, 1, none⟩ (.int .i64 r)).setCell ⟨w.heap.size, 2, none⟩ (.int .i64 l)).heap[w.heap.size]? = some (.cells #[.int .i64 s, .int .i64 r, .int .i64 l] 24 (0, 0))) := B_q
  have c_q_0 : (((w5.setCell ⟨w.heap.size, 0, none⟩ (.int .i64 s)).setCell ⟨w.heap.size, 1, none⟩ (.int .i64 r)).setCell ⟨w.heap.size, 2, none⟩ (.int .i64 l)).cell? ⟨w.heap.size, 0, none⟩ = some (.int .i64 s) := box_cell B_q 0
  have c_q_1 : (((w5.setCell ⟨w.heap.size, 0, none⟩ (.int .i64 s)).setCell ⟨w.heap.size, 1, none⟩ (.int .i64 r)).setCell ⟨w.heap.size, 2, none⟩ (.int .i64 l)).cell? ⟨w.heap.size, 1, none⟩ = some (.int .i64 r) := box_cell B_q 1
  have c_q_2 : (((w5.setCell ⟨w.heap.size, 0, none⟩ (.int .i64 s)).setCell ⟨w.heap.size, 1, none⟩ (.int .i64 r)).setCell ⟨w.heap.size, 2, none⟩ (.int .i64 l)).cell? ⟨w.heap.size, 2, none⟩ = some (.int .i64 l) := box_cell B_q 2
  go_wp2_with fail
  refine bodyPost_ret (v := .tuple #[.agg #[.int .i64 s, .int .i64 r, .int .i64 l], .slice Bxs xs.length cxs, .int .i64 ((p1 : Int) - (p2 : Int) / 11)]) (by simp [results, Tryd.results19, go_sem, c_q_0, c_q_1, c_q_2]) rfl ⟨s, r, l, xs, Bxs, cxs, _, rfl, by omega, hl_xs, O_xs.out.mono (by omega), HG.out⟩
end Go.Proofs.YtjlbhpogmjjbiaaDoor
