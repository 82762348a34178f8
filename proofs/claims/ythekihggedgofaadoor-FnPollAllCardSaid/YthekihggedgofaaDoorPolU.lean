/- The contracts of DrawPollValid and DrawPollAll. No statement is proved here. -/
import Derived.Test.YthekihggedgofaaDoorPolT
namespace Go.Proofs.YthekihggedgofaaDoor
open Go.RowKit
def DPoll (w : World) (e : Ending) (w' : World) : Prop :=
  ∃ (M : Int) (B1 : Option Addr) (n1 d1 : Nat) (G : List Int) (S : Int) (B3 : Option Addr) (n3 d3 : Nat) (Q : List Int) (L K T E : Int), e = .returned (.agg #[.int .i64 M, .slice B1 n1 d1, .int .i64 S, .slice B3 n3 d3, .int .i64 L, .int .i64 K, .int .i64 T, .int .i64 E]) ∧ n1 ≤ 13 ∧ n3 ≤ 13 ∧ Off w' w.heap.size B1 n1 d1 (ints G) ∧ Off w' w.heap.size B3 n3 d3 (ints Q) ∧ Below w.heap.size w w'
set_option maxHeartbeats 1000000 in
theorem dDrawPollValid (A : Option Addr) (m c : Nat) (w : World) (hc : m ≤ c) (hm : m ≤ 1048576) (hA : RdB w A m) : Calls Tryd.prog 5 #[.slice A m c] w (DPoll w) := by
  have HB := Lib.hid hA; clear hA
  have HG := Lib.hid (Below.refl w.heap.size w)
  go_enter Tryd.func5, Tryd.ntmps5
  have B_q := new_box w (.cells #[.int .i64 0, .slice none 0 0, .int .i64 0, .slice none 0 0, .int .i64 0, .int .i64 0, .int .i64 0, .int .i64 0] 25)
  have Z_q : w.heap.size ≤ w.heap.size := by have := HG.out.size; first | omega | (simp at this; omega) | (simp at this ⊢; omega)
  replace HG := Lib.hid (allocB HG.out (.cells #[.int .i64 0, .slice none 0 0, .int .i64 0, .slice none 0 0, .int .i64 0, .int .i64 0, .int .i64 0, .int .i64 0] 25))
  go_wp2_with fail
  refine (openC _ _ _ _ hc hm (rdb_below HB.out HG.out)).mono ?_
  rintro e w1 ⟨rfl, hR, hbn⟩
  have NR_q := blk_lt B_q.out
  replace B_q := be_box B_q hbn
  have hRe0 := HG.out.size
  replace HG := Lib.hid (seqB HG.out hbn)
  have HR := Lib.hid hR
  clear hbn hR HB
  obtain ⟨R, hRe⟩ : ∃ R, R = (w.alloc (.cells #[.int .i64 0, .slice none 0 0, .int .i64 0, .slice none 0 0, .int .i64 0, .int .i64 0, .int .i64 0, .int .i64 0] 25)).heap.size := ⟨_, rfl⟩
  have HRw : w.heap.size ≤ R := by rw [hRe]; exact hRe0
  rw [← hRe] at HR NR_q ⊢
  clear hRe hRe0
  have hz := HG.out.size
  have hqlt := blk_lt B_q.out
  go_wp2_with fail
  refine (drPoll R 0 2 _ HR.out (by omega) (by omega) (by omega)).mono ?_
  rintro e w2 ⟨M, B1, n1, d1, G, S, B3, n3, d3, Q, L, K, T, E, rfl, h1, h3, o1, o3, hR, hg⟩
  replace B_q := dr_box B_q hg (by omega)
  replace HR := Lib.hid hR
  replace HG := Lib.hid (gr_below HG.out hg HRw)
  clear hR hg
  have HO1 := Lib.hid o1; have HO3 := Lib.hid o3; clear o1 o3
  have k_q_3 : w2.cell? ⟨w.heap.size, 0, none⟩ = some (.int .i64 0) := box_cell B_q 0
  have y_q_3 : w2.frozen? ⟨w.heap.size, 0, none⟩ = false := box_free B_q 0
  replace B_q := st_same B_q 0 (.int .i64 M)
  replace HG := Lib.hid (be_set (g := w.heap.size) (j := 0) (u := .int .i64 M) HG.out  Z_q)
  replace B_q : Hid ((w2.setCell ⟨w.heap.size, 0, none⟩ (.int .i64 M)).heap[w.heap.size]? = some (.cells #[.int .i64 M, .slice none 0 0, .int .i64 0, .slice none 0 0, .int .i64 0, .int .i64 0, .int .i64 0, .int .i64 0] 25 (0, 0))) := B_q
  have k_q_4 : (w2.setCell ⟨w.heap.size, 0, none⟩ (.int .i64 M)).cell? ⟨w.heap.size, 1, none⟩ = some (.slice none 0 0) := box_cell B_q 1
  have y_q_4 : (w2.setCell ⟨w.heap.size, 0, none⟩ (.int .i64 M)).frozen? ⟨w.heap.size, 1, none⟩ = false := box_free B_q 1
  replace B_q := st_same B_q 1 (.slice B1 n1 d1)
  replace HG := Lib.hid (be_set (g := w.heap.size) (j := 1) (u := .slice B1 n1 d1) HG.out  Z_q)
  replace B_q : Hid (((w2.setCell ⟨w.heap.size, 0, none⟩ (.int .i64 M)).setCell ⟨w.heap.size, 1, none⟩ (.slice B1 n1 d1)).heap[w.heap.size]? = some (.cells #[.int .i64 M, .slice B1 n1 d1, .int .i64 0, .slice none 0 0, .int .i64 0, .int .i64 0, .int .i64 0, .int .i64 0] 25 (0, 0))) := B_q
  have k_q_5 : ((w2.setCell ⟨w.heap.size, 0, none⟩ (.int .i64 M)).setCell ⟨w.heap.size, 1, none⟩ (.slice B1 n1 d1)).cell? ⟨w.heap.size, 2, none⟩ = some (.int .i64 0) := box_cell B_q 2
  have y_q_5 : ((w2.setCell ⟨w.heap.size, 0, none⟩ (.int .i64 M)).setCell ⟨w.heap.size, 1, none⟩ (.slice B1 n1 d1)).frozen? ⟨w.heap.size, 2, none⟩ = false := box_free B_q 2
  replace B_q := st_same B_q 2 (.int .i64 S)
  replace HG := Lib.hid (be_set (g := w.heap.size) (j := 2) (u := .int .i64 S) HG.out  Z_q)
  replace B_q : Hid ((((w2.setCell ⟨w.heap.size, 0, none⟩ (.int .i64 M)).setCell ⟨w.heap.size, 1, none⟩ (.slice B1 n1 d1)).setCell ⟨w.heap.size, 2, none⟩ (.int .i64 S)).heap[w.heap.size]? = some (.cells #[.int .i64 M, .slice B1 n1 d1, .int .i64 S, .slice none 0 0, .int .i64 0, .int .i64 0, .int .i64 0, .int .i64 0] 25 (0, 0))) := B_q
  have k_q_6 : (((w2.setCell ⟨w.heap.size, 0, none⟩ (.int .i64 M)).setCell ⟨w.heap.size, 1, none⟩ (.slice B1 n1 d1)).setCell ⟨w.heap.size, 2, none⟩ (.int .i64 S)).cell? ⟨w.heap.size, 3, none⟩ = some (.slice none 0 0) := box_cell B_q 3
  have y_q_6 : (((w2.setCell ⟨w.heap.size, 0, none⟩ (.int .i64 M)).setCell ⟨w.heap.size, 1, none⟩ (.slice B1 n1 d1)).setCell ⟨w.heap.size, 2, none⟩ (.int .i64 S)).frozen? ⟨w.heap.size, 3, none⟩ = false := box_free B_q 3
  replace B_q := st_same B_q 3 (.slice B3 n3 d3)
  replace HG := Lib.hid (be_set (g := w.heap.size) (j := 3) (u := .slice B3 n3 d3) HG.out  Z_q)
  replace B_q : Hid (((((w2.setCell ⟨w.heap.size, 0, none⟩ (.int .i64 M)).setCell ⟨w.heap.size, 1, none⟩ (.slice B1 n1 d1)).setCell ⟨w.heap.size, 2, none⟩ (.int .i64 S)).setCell ⟨w.heap.size, 3, none⟩ (.slice B3 n3 d3)).heap[w.heap.size]? = some (.cells #[.int .i64 M, .slice B1 n1 d1, .int .i64 S, .slice B3 n3 d3, .int .i64 0, .int .i64 0, .int .i64 0, .int .i64 0] 25 (0, 0))) := B_q
  have k_q_7 : ((((w2.setCell ⟨w.heap.size, 0, none⟩ (.int .i64 M)).setCell ⟨w.heap.size, 1, none⟩ (.slice B1 n1 d1)).setCell ⟨w.heap.size, 2, none⟩ (.int .i64 S)).setCell ⟨w.heap.size, 3, none⟩ (.slice B3 n3 d3)).cell? ⟨w.heap.size, 4, none⟩ = some (.int .i64 0) := box_cell B_q 4
  have y_q_7 : ((((w2.setCell ⟨w.heap.size, 0, none⟩ (.int .i64 M)).setCell ⟨w.heap.size, 1, none⟩ (.slice B1 n1 d1)).setCell ⟨w.heap.size, 2, none⟩ (.int .i64 S)).setCell ⟨w.heap.size, 3, none⟩ (.slice B3 n3 d3)).frozen? ⟨w.heap.size, 4, none⟩ = false := box_free B_q 4
  replace B_q := st_same B_q 4 (.int .i64 L)
  replace HG := Lib.hid (be_set (g := w.heap.size) (j := 4) (u := .int .i64 L) HG.out  Z_q)
  replace B_q : Hid ((((((w2.setCell ⟨w.heap.size, 0, none⟩ (.int .i64 M)).setCell ⟨w.heap.size, 1, none⟩ (.slice B1 n1 d1)).setCell ⟨w.heap.size, 2, none⟩ (.int .i64 S)).setCell ⟨w.heap.size, 3, none⟩ (.slice B3 n3 d3)).setCell ⟨w.heap.size, 4, none⟩ (.int .i64 L)).heap[w.heap.size]? = some (.cells #[.int .i64 M, .slice B1 n1 d1, .int .i64 S, .slice B3 n3 d3, .int .i64 L, .int .i64 0, .int .i64 0, .int .i64 0] 25 (0, 0))) := B_q
  have k_q_8 : (((((w2.setCell ⟨w.heap.size, 0, none⟩ (.int .i64 M)).setCell ⟨w.heap.size, 1, none⟩ (.slice B1 n1 d1)).setCell ⟨w.heap.size, 2, none⟩ (.int .i64 S)).setCell ⟨w.heap.size, 3, none⟩ (.slice B3 n3 d3)).setCell ⟨w.heap.size, 4, none⟩ (.int .i64 L)).cell? ⟨w.heap.size, 5, none⟩ = some (.int .i64 0) := box_cell B_q 5
  have y_q_8 : (((((w2.setCell ⟨w.heap.size, 0, none⟩ (.int .i64 M)).setCell ⟨w.heap.size, 1, none⟩ (.slice B1 n1 d1)).setCell ⟨w.heap.size, 2, none⟩ (.int .i64 S)).setCell ⟨w.heap.size, 3, none⟩ (.slice B3 n3 d3)).setCell ⟨w.heap.size, 4, none⟩ (.int .i64 L)).frozen? ⟨w.heap.size, 5, none⟩ = false := box_free B_q 5
  replace B_q := st_same B_q 5 (.int .i64 K)
  replace HG := Lib.hid (be_set (g := w.heap.size) (j := 5) (u := .int .i64 K) HG.out  Z_q)
  replace B_q : Hid (((((((w2.setCell ⟨w.heap.size, 0, none⟩ (.int .i64 M)).setCell ⟨w.heap.size, 1, none⟩ (.slice B1 n1 d1)).setCell ⟨w.heap.size, 2, none⟩ (.int .i64 S)).setCell ⟨w.heap.size, 3, none⟩ (.slice B3 n3 d3)).setCell ⟨w.heap.size, 4, none⟩ (.int .i64 L)).setCell ⟨w.heap.size, 5, none⟩ (.int .i64 K)).heap[w.heap.size]? = some (.cells #[.int .i64 M, .slice B1 n1 d1, .int .i64 S, .slice B3 n3 d3, .int .i64 L, .int .i64 K, .int .i64 0, .int .i64 0] 25 (0, 0))) := B_q
  have k_q_9 : ((((((w2.setCell ⟨w.heap.size, 0, none⟩ (.int .i64 M)).setCell ⟨w.heap.size, 1, none⟩ (.slice B1 n1 d1)).setCell ⟨w.heap.size, 2, none⟩ (.int .i64 S)).setCell ⟨w.heap.size, 3, none⟩ (.slice B3 n3 d3)).setCell ⟨w.heap.size, 4, none⟩ (.int .i64 L)).setCell ⟨w.heap.size, 5, none⟩ (.int .i64 K)).cell? ⟨w.heap.size, 6, none⟩ = some (.int .i64 0) := box_cell B_q 6
  have y_q_9 : ((((((w2.setCell ⟨w.heap.size, 0, none⟩ (.int .i64 M)).setCell ⟨w.heap.size, 1, none⟩ (.slice B1 n1 d1)).setCell ⟨w.heap.size, 2, none⟩ (.int .i64 S)).setCell ⟨w.heap.size, 3, none⟩ (.slice B3 n3 d3)).setCell ⟨w.heap.size, 4, none⟩ (.int .i64 L)).setCell ⟨w.heap.size, 5, none⟩ (.int .i64 K)).frozen? ⟨w.heap.size, 6, none⟩ = false := box_free B_q 6
  replace B_q := st_same B_q 6 (.int .i64 T)
  replace HG := Lib.hid (be_set (g := w.heap.size) (j := 6) (u := .int .i64 T) HG.out  Z_q)
  replace B_q : Hid ((((((((w2.setCell ⟨w.heap.size, 0, none⟩ (.int .i64 M)).setCell ⟨w.heap.size, 1, none⟩ (.slice B1 n1 d1)).setCell ⟨w.heap.size, 2, none⟩ (.int .i64 S)).setCell ⟨w.heap.size, 3, none⟩ (.slice B3 n3 d3)).setCell ⟨w.heap.size, 4, none⟩ (.int .i64 L)).setCell ⟨w.heap.size, 5, none⟩ (.int .i64 K)).setCell ⟨w.heap.size, 6, none⟩ (.int .i64 T)).heap[w.heap.size]? = some (.cells #[.int .i64 M, .slice B1 n1 d1, .int .i64 S, .slice B3 n3 d3, .int .i64 L, .int .i64 K, .int .i64 T, .int .i64 0] 25 (0, 0))) := B_q
  have k_q_10 : (((((((w2.setCell ⟨w.heap.size, 0, none⟩ (.int .i64 M)).setCell ⟨w.heap.size, 1, none⟩ (.slice B1 n1 d1)).setCell ⟨w.heap.size, 2, none⟩ (.int .i64 S)).setCell ⟨w.heap.size, 3, none⟩ (.slice B3 n3 d3)).setCell ⟨w.heap.size, 4, none⟩ (.int .i64 L)).setCell ⟨w.heap.size, 5, none⟩ (.int .i64 K)).setCell ⟨w.heap.size, 6, none⟩ (.int .i64 T)).cell? ⟨w.heap.size, 7, none⟩ = some (.int .i64 0) := box_cell B_q 7
  have y_q_10 : (((((((w2.setCell ⟨w.heap.size, 0, none⟩ (.int .i64 M)).setCell ⟨w.heap.size, 1, none⟩ (.slice B1 n1 d1)).setCell ⟨w.heap.size, 2, none⟩ (.int .i64 S)).setCell ⟨w.heap.size, 3, none⟩ (.slice B3 n3 d3)).setCell ⟨w.heap.size, 4, none⟩ (.int .i64 L)).setCell ⟨w.heap.size, 5, none⟩ (.int .i64 K)).setCell ⟨w.heap.size, 6, none⟩ (.int .i64 T)).frozen? ⟨w.heap.size, 7, none⟩ = false := box_free B_q 7
  replace B_q := st_same B_q 7 (.int .i64 E)
  replace HG := Lib.hid (be_set (g := w.heap.size) (j := 7) (u := .int .i64 E) HG.out  Z_q)
  replace B_q : Hid (((((((((w2.setCell ⟨w.heap.size, 0, none⟩ (.int .i64 M)).setCell ⟨w.heap.size, 1, none⟩ (.slice B1 n1 d1)).setCell ⟨w.heap.size, 2, none⟩ (.int .i64 S)).setCell ⟨w.heap.size, 3, none⟩ (.slice B3 n3 d3)).setCell ⟨w.heap.size, 4, none⟩ (.int .i64 L)).setCell ⟨w.heap.size, 5, none⟩ (.int .i64 K)).setCell ⟨w.heap.size, 6, none⟩ (.int .i64 T)).setCell ⟨w.heap.size, 7, none⟩ (.int .i64 E)).heap[w.heap.size]? = some (.cells #[.int .i64 M, .slice B1 n1 d1, .int .i64 S, .slice B3 n3 d3, .int .i64 L, .int .i64 K, .int .i64 T, .int .i64 E] 25 (0, 0))) := B_q
  have c_q_0 : ((((((((w2.setCell ⟨w.heap.size, 0, none⟩ (.int .i64 M)).setCell ⟨w.heap.size, 1, none⟩ (.slice B1 n1 d1)).setCell ⟨w.heap.size, 2, none⟩ (.int .i64 S)).setCell ⟨w.heap.size, 3, none⟩ (.slice B3 n3 d3)).setCell ⟨w.heap.size, 4, none⟩ (.int .i64 L)).setCell ⟨w.heap.size, 5, none⟩ (.int .i64 K)).setCell ⟨w.heap.size, 6, none⟩ (.int .i64 T)).setCell ⟨w.heap.size, 7, none⟩ (.int .i64 E)).cell? ⟨w.heap.size, 0, none⟩ = some (.int .i64 M) := box_cell B_q 0
  have c_q_1 : ((((((((w2.setCell ⟨w.heap.size, 0, none⟩ (.int .i64 M)).setCell ⟨w.heap.size, 1, none⟩ (.slice B1 n1 d1)).setCell ⟨w.heap.size, 2, none⟩ (.int .i64 S)).setCell ⟨w.heap.size, 3, none⟩ (.slice B3 n3 d3)).setCell ⟨w.heap.size, 4, none⟩ (.int .i64 L)).setCell ⟨w.heap.size, 5, none⟩ (.int .i64 K)).setCell ⟨w.heap.size, 6, none⟩ (.int .i64 T)).setCell ⟨w.heap.size, 7, none⟩ (.int .i64 E)).cell? ⟨w.heap.size, 1, none⟩ = some (.slice B1 n1 d1) := box_cell B_q 1
  have c_q_2 : ((((((((w2.setCell ⟨w.heap.size, 0, none⟩ (.int .i64 M)).setCell ⟨w.heap.size, 1, none⟩ (.slice B1 n1 d1)).setCell ⟨w.heap.size, 2, none⟩ (.int .i64 S)).setCell ⟨w.heap.size, 3, none⟩ (.slice B3 n3 d3)).setCell ⟨w.heap.size, 4, none⟩ (.int .i64 L)).setCell ⟨w.heap.size, 5, none⟩ (.int .i64 K)).setCell ⟨w.heap.size, 6, none⟩ (.int .i64 T)).setCell ⟨w.heap.size, 7, none⟩ (.int .i64 E)).cell? ⟨w.heap.size, 2, none⟩ = some (.int .i64 S) := box_cell B_q 2
  have c_q_3 : ((((((((w2.setCell ⟨w.heap.size, 0, none⟩ (.int .i64 M)).setCell ⟨w.heap.size, 1, none⟩ (.slice B1 n1 d1)).setCell ⟨w.heap.size, 2, none⟩ (.int .i64 S)).setCell ⟨w.heap.size, 3, none⟩ (.slice B3 n3 d3)).setCell ⟨w.heap.size, 4, none⟩ (.int .i64 L)).setCell ⟨w.heap.size, 5, none⟩ (.int .i64 K)).setCell ⟨w.heap.size, 6, none⟩ (.int .i64 T)).setCell ⟨w.heap.size, 7, none⟩ (.int .i64 E)).cell? ⟨w.heap.size, 3, none⟩ = some (.slice B3 n3 d3) := box_cell B_q 3
  have c_q_4 : ((((((((w2.setCell ⟨w.heap.size, 0, none⟩ (.int .i64 M)).setCell ⟨w.heap.size, 1, none⟩ (.slice B1 n1 d1)).setCell ⟨w.heap.size, 2, none⟩ (.int .i64 S)).setCell ⟨w.heap.size, 3, none⟩ (.slice B3 n3 d3)).setCell ⟨w.heap.size, 4, none⟩ (.int .i64 L)).setCell ⟨w.heap.size, 5, none⟩ (.int .i64 K)).setCell ⟨w.heap.size, 6, none⟩ (.int .i64 T)).setCell ⟨w.heap.size, 7, none⟩ (.int .i64 E)).cell? ⟨w.heap.size, 4, none⟩ = some (.int .i64 L) := box_cell B_q 4
  have c_q_5 : ((((((((w2.setCell ⟨w.heap.size, 0, none⟩ (.int .i64 M)).setCell ⟨w.heap.size, 1, none⟩ (.slice B1 n1 d1)).setCell ⟨w.heap.size, 2, none⟩ (.int .i64 S)).setCell ⟨w.heap.size, 3, none⟩ (.slice B3 n3 d3)).setCell ⟨w.heap.size, 4, none⟩ (.int .i64 L)).setCell ⟨w.heap.size, 5, none⟩ (.int .i64 K)).setCell ⟨w.heap.size, 6, none⟩ (.int .i64 T)).setCell ⟨w.heap.size, 7, none⟩ (.int .i64 E)).cell? ⟨w.heap.size, 5, none⟩ = some (.int .i64 K) := box_cell B_q 5
  have c_q_6 : ((((((((w2.setCell ⟨w.heap.size, 0, none⟩ (.int .i64 M)).setCell ⟨w.heap.size, 1, none⟩ (.slice B1 n1 d1)).setCell ⟨w.heap.size, 2, none⟩ (.int .i64 S)).setCell ⟨w.heap.size, 3, none⟩ (.slice B3 n3 d3)).setCell ⟨w.heap.size, 4, none⟩ (.int .i64 L)).setCell ⟨w.heap.size, 5, none⟩ (.int .i64 K)).setCell ⟨w.heap.size, 6, none⟩ (.int .i64 T)).setCell ⟨w.heap.size, 7, none⟩ (.int .i64 E)).cell? ⟨w.heap.size, 6, none⟩ = some (.int .i64 T) := box_cell B_q 6
  have c_q_7 : ((((((((w2.setCell ⟨w.heap.size, 0, none⟩ (.int .i64 M)).setCell ⟨w.heap.size, 1, none⟩ (.slice B1 n1 d1)).setCell ⟨w.heap.size, 2, none⟩ (.int .i64 S)).setCell ⟨w.heap.size, 3, none⟩ (.slice B3 n3 d3)).setCell ⟨w.heap.size, 4, none⟩ (.int .i64 L)).setCell ⟨w.heap.size, 5, none⟩ (.int .i64 K)).setCell ⟨w.heap.size, 6, none⟩ (.int .i64 T)).setCell ⟨w.heap.size, 7, none⟩ (.int .i64 E)).cell? ⟨w.heap.size, 7, none⟩ = some (.int .i64 E) := box_cell B_q 7
  have p1 := Lib.hid (off8 (g := w.heap.size) HO1.out (fun a e => by have := (HO1.out.ge a e).1; omega) (.int .i64 M) (.slice B1 n1 d1) (.int .i64 S) (.slice B3 n3 d3) (.int .i64 L) (.int .i64 K) (.int .i64 T) (.int .i64 E))
  have p3 := Lib.hid (off8 (g := w.heap.size) HO3.out (fun a e => by have := (HO3.out.ge a e).1; omega) (.int .i64 M) (.slice B1 n1 d1) (.int .i64 S) (.slice B3 n3 d3) (.int .i64 L) (.int .i64 K) (.int .i64 T) (.int .i64 E))
  clear HO1 HO3
  go_wp2_with fail
  exact bodyPost_ret (v := .agg #[.int .i64 M, .slice B1 n1 d1, .int .i64 S, .slice B3 n3 d3, .int .i64 L, .int .i64 K, .int .i64 T, .int .i64 E]) (by simp [results, Tryd.results5, go_sem, c_q_0, c_q_1, c_q_2, c_q_3, c_q_4, c_q_5, c_q_6, c_q_7]) rfl ⟨M, B1, n1, d1, G, S, B3, n3, d3, Q, L, K, T, E, rfl, h1, h3, p1.out.mono (by omega), p3.out.mono (by omega), HG.out⟩
set_option maxHeartbeats 1000000 in
theorem dDrawPollAll (A : Option Addr) (m c : Nat) (w : World) (hc : m ≤ c) (hm : m ≤ 1048576) (hA : RdB w A m) : Calls Tryd.prog 10 #[.slice A m c] w (DPoll w) := by
  have HB := Lib.hid hA; clear hA
  have HG := Lib.hid (Below.refl w.heap.size w)
  go_enter Tryd.func10, Tryd.ntmps10
  have B_q := new_box w (.cells #[.int .i64 0, .slice none 0 0, .int .i64 0, .slice none 0 0, .int .i64 0, .int .i64 0, .int .i64 0, .int .i64 0] 25)
  have Z_q : w.heap.size ≤ w.heap.size := by have := HG.out.size; first | omega | (simp at this; omega) | (simp at this ⊢; omega)
  replace HG := Lib.hid (allocB HG.out (.cells #[.int .i64 0, .slice none 0 0, .int .i64 0, .slice none 0 0, .int .i64 0, .int .i64 0, .int .i64 0, .int .i64 0] 25))
  go_wp2_with fail
  refine (openC _ _ _ _ hc hm (rdb_below HB.out HG.out)).mono ?_
  rintro e w1 ⟨rfl, hR, hbn⟩
  have NR_q := blk_lt B_q.out
  replace B_q := be_box B_q hbn
  have hRe0 := HG.out.size
  replace HG := Lib.hid (seqB HG.out hbn)
  have HR := Lib.hid hR
  clear hbn hR HB
  obtain ⟨R, hRe⟩ : ∃ R, R = (w.alloc (.cells #[.int .i64 0, .slice none 0 0, .int .i64 0, .slice none 0 0, .int .i64 0, .int .i64 0, .int .i64 0, .int .i64 0] 25)).heap.size := ⟨_, rfl⟩
  have HRw : w.heap.size ≤ R := by rw [hRe]; exact hRe0
  rw [← hRe] at HR NR_q ⊢
  clear hRe hRe0
  have hz := HG.out.size
  have hqlt := blk_lt B_q.out
  go_wp2_with fail
  refine (drPoll R 0 9 _ HR.out (by omega) (by omega) (by omega)).mono ?_
  rintro e w2 ⟨M, B1, n1, d1, G, S, B3, n3, d3, Q, L, K, T, E, rfl, h1, h3, o1, o3, hR, hg⟩
  replace B_q := dr_box B_q hg (by omega)
  replace HR := Lib.hid hR
  replace HG := Lib.hid (gr_below HG.out hg HRw)
  clear hR hg
  have HO1 := Lib.hid o1; have HO3 := Lib.hid o3; clear o1 o3
  have k_q_3 : w2.cell? ⟨w.heap.size, 0, none⟩ = some (.int .i64 0) := box_cell B_q 0
  have y_q_3 : w2.frozen? ⟨w.heap.size, 0, none⟩ = false := box_free B_q 0
  replace B_q := st_same B_q 0 (.int .i64 M)
  replace HG := Lib.hid (be_set (g := w.heap.size) (j := 0) (u := .int .i64 M) HG.out  Z_q)
  replace B_q : Hid ((w2.setCell ⟨w.heap.size, 0, none⟩ (.int .i64 M)).heap[w.heap.size]? = some (.cells #[.int .i64 M, .slice none 0 0, .int .i64 0, .slice none 0 0, .int .i64 0, .int .i64 0, .int .i64 0, .int .i64 0] 25 (0, 0))) := B_q
  have k_q_4 : (w2.setCell ⟨w.heap.size, 0, none⟩ (.int .i64 M)).cell? ⟨w.heap.size, 1, none⟩ = some (.slice none 0 0) := box_cell B_q 1
  have y_q_4 : (w2.setCell ⟨w.heap.size, 0, none⟩ (.int .i64 M)).frozen? ⟨w.heap.size, 1, none⟩ = false := box_free B_q 1
  replace B_q := st_same B_q 1 (.slice B1 n1 d1)
  replace HG := Lib.hid (be_set (g := w.heap.size) (j := 1) (u := .slice B1 n1 d1) HG.out  Z_q)
  replace B_q : Hid (((w2.setCell ⟨w.heap.size, 0, none⟩ (.int .i64 M)).setCell ⟨w.heap.size, 1, none⟩ (.slice B1 n1 d1)).heap[w.heap.size]? = some (.cells #[.int .i64 M, .slice B1 n1 d1, .int .i64 0, .slice none 0 0, .int .i64 0, .int .i64 0, .int .i64 0, .int .i64 0] 25 (0, 0))) := B_q
  have k_q_5 : ((w2.setCell ⟨w.heap.size, 0, none⟩ (.int .i64 M)).setCell ⟨w.heap.size, 1, none⟩ (.slice B1 n1 d1)).cell? ⟨w.heap.size, 2, none⟩ = some (.int .i64 0) := box_cell B_q 2
  have y_q_5 : ((w2.setCell ⟨w.heap.size, 0, none⟩ (.int .i64 M)).setCell ⟨w.heap.size, 1, none⟩ (.slice B1 n1 d1)).frozen? ⟨w.heap.size, 2, none⟩ = false := box_free B_q 2
  replace B_q := st_same B_q 2 (.int .i64 S)
  replace HG := Lib.hid (be_set (g := w.heap.size) (j := 2) (u := .int .i64 S) HG.out  Z_q)
  replace B_q : Hid ((((w2.setCell ⟨w.heap.size, 0, none⟩ (.int .i64 M)).setCell ⟨w.heap.size, 1, none⟩ (.slice B1 n1 d1)).setCell ⟨w.heap.size, 2, none⟩ (.int .i64 S)).heap[w.heap.size]? = some (.cells #[.int .i64 M, .slice B1 n1 d1, .int .i64 S, .slice none 0 0, .int .i64 0, .int .i64 0, .int .i64 0, .int .i64 0] 25 (0, 0))) := B_q
  have k_q_6 : (((w2.setCell ⟨w.heap.size, 0, none⟩ (.int .i64 M)).setCell ⟨w.heap.size, 1, none⟩ (.slice B1 n1 d1)).setCell ⟨w.heap.size, 2, none⟩ (.int .i64 S)).cell? ⟨w.heap.size, 3, none⟩ = some (.slice none 0 0) := box_cell B_q 3
  have y_q_6 : (((w2.setCell ⟨w.heap.size, 0, none⟩ (.int .i64 M)).setCell ⟨w.heap.size, 1, none⟩ (.slice B1 n1 d1)).setCell ⟨w.heap.size, 2, none⟩ (.int .i64 S)).frozen? ⟨w.heap.size, 3, none⟩ = false := box_free B_q 3
  replace B_q := st_same B_q 3 (.slice B3 n3 d3)
  replace HG := Lib.hid (be_set (g := w.heap.size) (j := 3) (u := .slice B3 n3 d3) HG.out  Z_q)
  replace B_q : Hid (((((w2.setCell ⟨w.heap.size, 0, none⟩ (.int .i64 M)).setCell ⟨w.heap.size, 1, none⟩ (.slice B1 n1 d1)).setCell ⟨w.heap.size, 2, none⟩ (.int .i64 S)).setCell ⟨w.heap.size, 3, none⟩ (.slice B3 n3 d3)).heap[w.heap.size]? = some (.cells #[.int .i64 M, .slice B1 n1 d1, .int .i64 S, .slice B3 n3 d3, .int .i64 0, .int .i64 0, .int .i64 0, .int .i64 0] 25 (0, 0))) := B_q
  have k_q_7 : ((((w2.setCell ⟨w.heap.size, 0, none⟩ (.int .i64 M)).setCell ⟨w.heap.size, 1, none⟩ (.slice B1 n1 d1)).setCell ⟨w.heap.size, 2, none⟩ (.int .i64 S)).setCell ⟨w.heap.size, 3, none⟩ (.slice B3 n3 d3)).cell? ⟨w.heap.size, 4, none⟩ = some (.int .i64 0) := box_cell B_q 4
  have y_q_7 : ((((w2.setCell ⟨w.heap.size, 0, none⟩ (.int .i64 M)).setCell ⟨w.heap.size, 1, none⟩ (.slice B1 n1 d1)).setCell ⟨w.heap.size, 2, none⟩ (.int .i64 S)).setCell ⟨w.heap.size, 3, none⟩ (.slice B3 n3 d3)).frozen? ⟨w.heap.size, 4, none⟩ = false := box_free B_q 4
  replace B_q := st_same B_q 4 (.int .i64 L)
  replace HG := Lib.hid (be_set (g := w.heap.size) (j := 4) (u := .int .i64 L) HG.out  Z_q)
  replace B_q : Hid ((((((w2.setCell ⟨w.heap.size, 0, none⟩ (.int .i64 M)).setCell ⟨w.heap.size, 1, none⟩ (.slice B1 n1 d1)).setCell ⟨w.heap.size, 2, none⟩ (.int .i64 S)).setCell ⟨w.heap.size, 3, none⟩ (.slice B3 n3 d3)).setCell ⟨w.heap.size, 4, none⟩ (.int .i64 L)).heap[w.heap.size]? = some (.cells #[.int .i64 M, .slice B1 n1 d1, .int .i64 S, .slice B3 n3 d3, .int .i64 L, .int .i64 0, .int .i64 0, .int .i64 0] 25 (0, 0))) := B_q
  have k_q_8 : (((((w2.setCell ⟨w.heap.size, 0, none⟩ (.int .i64 M)).setCell ⟨w.heap.size, 1, none⟩ (.slice B1 n1 d1)).setCell ⟨w.heap.size, 2, none⟩ (.int .i64 S)).setCell ⟨w.heap.size, 3, none⟩ (.slice B3 n3 d3)).setCell ⟨w.heap.size, 4, none⟩ (.int .i64 L)).cell? ⟨w.heap.size, 5, none⟩ = some (.int .i64 0) := box_cell B_q 5
  have y_q_8 : (((((w2.setCell ⟨w.heap.size, 0, none⟩ (.int .i64 M)).setCell ⟨w.heap.size, 1, none⟩ (.slice B1 n1 d1)).setCell ⟨w.heap.size, 2, none⟩ (.int .i64 S)).setCell ⟨w.heap.size, 3, none⟩ (.slice B3 n3 d3)).setCell ⟨w.heap.size, 4, none⟩ (.int .i64 L)).frozen? ⟨w.heap.size, 5, none⟩ = false := box_free B_q 5
  replace B_q := st_same B_q 5 (.int .i64 K)
  replace HG := Lib.hid (be_set (g := w.heap.size) (j := 5) (u := .int .i64 K) HG.out  Z_q)
  replace B_q : Hid (((((((w2.setCell ⟨w.heap.size, 0, none⟩ (.int .i64 M)).setCell ⟨w.heap.size, 1, none⟩ (.slice B1 n1 d1)).setCell ⟨w.heap.size, 2, none⟩ (.int .i64 S)).setCell ⟨w.heap.size, 3, none⟩ (.slice B3 n3 d3)).setCell ⟨w.heap.size, 4, none⟩ (.int .i64 L)).setCell ⟨w.heap.size, 5, none⟩ (.int .i64 K)).heap[w.heap.size]? = some (.cells #[.int .i64 M, .slice B1 n1 d1, .int .i64 S, .slice B3 n3 d3, .int .i64 L, .int .i64 K, .int .i64 0, .int .i64 0] 25 (0, 0))) := B_q
  have k_q_9 : ((((((w2.setCell ⟨w.heap.size, 0, none⟩ (.int .i64 M)).setCell ⟨w.heap.size, 1, none⟩ (.slice B1 n1 d1)).setCell ⟨w.heap.size, 2, none⟩ (.int .i64 S)).setCell ⟨w.heap.size, 3, none⟩ (.slice B3 n3 d3)).setCell ⟨w.heap.size, 4, none⟩ (.int .i64 L)).setCell ⟨w.heap.size, 5, none⟩ (.int .i64 K)).cell? ⟨w.heap.size, 6, none⟩ = some (.int .i64 0) := box_cell B_q 6
  have y_q_9 : ((((((w2.setCell ⟨w.heap.size, 0, none⟩ (.int .i64 M)).setCell ⟨w.heap.size, 1, none⟩ (.slice B1 n1 d1)).setCell ⟨w.heap.size, 2, none⟩ (.int .i64 S)).setCell ⟨w.heap.size, 3, none⟩ (.slice B3 n3 d3)).setCell ⟨w.heap.size, 4, none⟩ (.int .i64 L)).setCell ⟨w.heap.size, 5, none⟩ (.int .i64 K)).frozen? ⟨w.heap.size, 6, none⟩ = false := box_free B_q 6
  replace B_q := st_same B_q 6 (.int .i64 T)
  replace HG := Lib.hid (be_set (g := w.heap.size) (j := 6) (u := .int .i64 T) HG.out  Z_q)
  replace B_q : Hid ((((((((w2.setCell ⟨w.heap.size, 0, none⟩ (.int .i64 M)).setCell ⟨w.heap.size, 1, none⟩ (.slice B1 n1 d1)).setCell ⟨w.heap.size, 2, none⟩ (.int .i64 S)).setCell ⟨w.heap.size, 3, none⟩ (.slice B3 n3 d3)).setCell ⟨w.heap.size, 4, none⟩ (.int .i64 L)).setCell ⟨w.heap.size, 5, none⟩ (.int .i64 K)).setCell ⟨w.heap.size, 6, none⟩ (.int .i64 T)).heap[w.heap.size]? = some (.cells #[.int .i64 M, .slice B1 n1 d1, .int .i64 S, .slice B3 n3 d3, .int .i64 L, .int .i64 K, .int .i64 T, .int .i64 0] 25 (0, 0))) := B_q
  have k_q_10 : (((((((w2.setCell ⟨w.heap.size, 0, none⟩ (.int .i64 M)).setCell ⟨w.heap.size, 1, none⟩ (.slice B1 n1 d1)).setCell ⟨w.heap.size, 2, none⟩ (.int .i64 S)).setCell ⟨w.heap.size, 3, none⟩ (.slice B3 n3 d3)).setCell ⟨w.heap.size, 4, none⟩ (.int .i64 L)).setCell ⟨w.heap.size, 5, none⟩ (.int .i64 K)).setCell ⟨w.heap.size, 6, none⟩ (.int .i64 T)).cell? ⟨w.heap.size, 7, none⟩ = some (.int .i64 0) := box_cell B_q 7
  have y_q_10 : (((((((w2.setCell ⟨w.heap.size, 0, none⟩ (.int .i64 M)).setCell ⟨w.heap.size, 1, none⟩ (.slice B1 n1 d1)).setCell ⟨w.heap.size, 2, none⟩ (.int .i64 S)).setCell ⟨w.heap.size, 3, none⟩ (.slice B3 n3 d3)).setCell ⟨w.heap.size, 4, none⟩ (.int .i64 L)).setCell ⟨w.heap.size, 5, none⟩ (.int .i64 K)).setCell ⟨w.heap.size, 6, none⟩ (.int .i64 T)).frozen? ⟨w.heap.size, 7, none⟩ = false := box_free B_q 7
  replace B_q := st_same B_q 7 (.int .i64 E)
  replace HG := Lib.hid (be_set (g := w.heap.size) (j := 7) (u := .int .i64 E) HG.out  Z_q)
  replace B_q : Hid (((((((((w2.setCell ⟨w.heap.size, 0, none⟩ (.int .i64 M)).setCell ⟨w.heap.size, 1, none⟩ (.slice B1 n1 d1)).setCell ⟨w.heap.size, 2, none⟩ (.int .i64 S)).setCell ⟨w.heap.size, 3, none⟩ (.slice B3 n3 d3)).setCell ⟨w.heap.size, 4, none⟩ (.int .i64 L)).setCell ⟨w.heap.size, 5, none⟩ (.int .i64 K)).setCell ⟨w.heap.size, 6, none⟩ (.int .i64 T)).setCell ⟨w.heap.size, 7, none⟩ (.int .i64 E)).heap[w.heap.size]? = some (.cells #[.int .i64 M, .slice B1 n1 d1, .int .i64 S, .slice B3 n3 d3, .int .i64 L, .int .i64 K, .int .i64 T, .int .i64 E] 25 (0, 0))) := B_q
  have c_q_0 : ((((((((w2.setCell ⟨w.heap.size, 0, none⟩ (.int .i64 M)).setCell ⟨w.heap.size, 1, none⟩ (.slice B1 n1 d1)).setCell ⟨w.heap.size, 2, none⟩ (.int .i64 S)).setCell ⟨w.heap.size, 3, none⟩ (.slice B3 n3 d3)).setCell ⟨w.heap.size, 4, none⟩ (.int .i64 L)).setCell ⟨w.heap.size, 5, none⟩ (.int .i64 K)).setCell ⟨w.heap.size, 6, none⟩ (.int .i64 T)).setCell ⟨w.heap.size, 7, none⟩ (.int .i64 E)).cell? ⟨w.heap.size, 0, none⟩ = some (.int .i64 M) := box_cell B_q 0
  have c_q_1 : ((((((((w2.setCell ⟨w.heap.size, 0, none⟩ (.int .i64 M)).setCell ⟨w.heap.size, 1, none⟩ (.slice B1 n1 d1)).setCell ⟨w.heap.size, 2, none⟩ (.int .i64 S)).setCell ⟨w.heap.size, 3, none⟩ (.slice B3 n3 d3)).setCell ⟨w.heap.size, 4, none⟩ (.int .i64 L)).setCell ⟨w.heap.size, 5, none⟩ (.int .i64 K)).setCell ⟨w.heap.size, 6, none⟩ (.int .i64 T)).setCell ⟨w.heap.size, 7, none⟩ (.int .i64 E)).cell? ⟨w.heap.size, 1, none⟩ = some (.slice B1 n1 d1) := box_cell B_q 1
  have c_q_2 : ((((((((w2.setCell ⟨w.heap.size, 0, none⟩ (.int .i64 M)).setCell ⟨w.heap.size, 1, none⟩ (.slice B1 n1 d1)).setCell ⟨w.heap.size, 2, none⟩ (.int .i64 S)).setCell ⟨w.heap.size, 3, none⟩ (.slice B3 n3 d3)).setCell ⟨w.heap.size, 4, none⟩ (.int .i64 L)).setCell ⟨w.heap.size, 5, none⟩ (.int .i64 K)).setCell ⟨w.heap.size, 6, none⟩ (.int .i64 T)).setCell ⟨w.heap.size, 7, none⟩ (.int .i64 E)).cell? ⟨w.heap.size, 2, none⟩ = some (.int .i64 S) := box_cell B_q 2
  have c_q_3 : ((((((((w2.setCell ⟨w.heap.size, 0, none⟩ (.int .i64 M)).setCell ⟨w.heap.size, 1, none⟩ (.slice B1 n1 d1)).setCell ⟨w.heap.size, 2, none⟩ (.int .i64 S)).setCell ⟨w.heap.size, 3, none⟩ (.slice B3 n3 d3)).setCell ⟨w.heap.size, 4, none⟩ (.int .i64 L)).setCell ⟨w.heap.size, 5, none⟩ (.int .i64 K)).setCell ⟨w.heap.size, 6, none⟩ (.int .i64 T)).setCell ⟨w.heap.size, 7, none⟩ (.int .i64 E)).cell? ⟨w.heap.size, 3, none⟩ = some (.slice B3 n3 d3) := box_cell B_q 3
  have c_q_4 : ((((((((w2.setCell ⟨w.heap.size, 0, none⟩ (.int .i64 M)).setCell ⟨w.heap.size, 1, none⟩ (.slice B1 n1 d1)).setCell ⟨w.heap.size, 2, none⟩ (.int .i64 S)).setCell ⟨w.heap.size, 3, none⟩ (.slice B3 n3 d3)).setCell ⟨w.heap.size, 4, none⟩ (.int .i64 L)).setCell ⟨w.heap.size, 5, none⟩ (.int .i64 K)).setCell ⟨w.heap.size, 6, none⟩ (.int .i64 T)).setCell ⟨w.heap.size, 7, none⟩ (.int .i64 E)).cell? ⟨w.heap.size, 4, none⟩ = some (.int .i64 L) := box_cell B_q 4
  have c_q_5 : ((((((((w2.setCell ⟨w.heap.size, 0, none⟩ (.int .i64 M)).setCell ⟨w.heap.size, 1, none⟩ (.slice B1 n1 d1)).setCell ⟨w.heap.size, 2, none⟩ (.int .i64 S)).setCell ⟨w.heap.size, 3, none⟩ (.slice B3 n3 d3)).setCell ⟨w.heap.size, 4, none⟩ (.int .i64 L)).setCell ⟨w.heap.size, 5, none⟩ (.int .i64 K)).setCell ⟨w.heap.size, 6, none⟩ (.int .i64 T)).setCell ⟨w.heap.size, 7, none⟩ (.int .i64 E)).cell? ⟨w.heap.size, 5, none⟩ = some (.int .i64 K) := box_cell B_q 5
  have c_q_6 : ((((((((w2.setCell ⟨w.heap.size, 0, none⟩ (.int .i64 M)).setCell ⟨w.heap.size, 1, none⟩ (.slice B1 n1 d1)).setCell ⟨w.heap.size, 2, none⟩ (.int .i64 S)).setCell ⟨w.heap.size, 3, none⟩ (.slice B3 n3 d3)).setCell ⟨w.heap.size, 4, none⟩ (.int .i64 L)).setCell ⟨w.heap.size, 5, none⟩ (.int .i64 K)).setCell ⟨w.heap.size, 6, none⟩ (.int .i64 T)).setCell ⟨w.heap.size, 7, none⟩ (.int .i64 E)).cell? ⟨w.heap.size, 6, none⟩ = some (.int .i64 T) := box_cell B_q 6
  have c_q_7 : ((((((((w2.setCell ⟨w.heap.size, 0, none⟩ (.int .i64 M)).setCell ⟨w.heap.size, 1, none⟩ (.slice B1 n1 d1)).setCell ⟨w.heap.size, 2, none⟩ (.int .i64 S)).setCell ⟨w.heap.size, 3, none⟩ (.slice B3 n3 d3)).setCell ⟨w.heap.size, 4, none⟩ (.int .i64 L)).setCell ⟨w.heap.size, 5, none⟩ (.int .i64 K)).setCell ⟨w.heap.size, 6, none⟩ (.int .i64 T)).setCell ⟨w.heap.size, 7, none⟩ (.int .i64 E)).cell? ⟨w.heap.size, 7, none⟩ = some (.int .i64 E) := box_cell B_q 7
  have p1 := Lib.hid (off8 (g := w.heap.size) HO1.out (fun a e => by have := (HO1.out.ge a e).1; omega) (.int .i64 M) (.slice B1 n1 d1) (.int .i64 S) (.slice B3 n3 d3) (.int .i64 L) (.int .i64 K) (.int .i64 T) (.int .i64 E))
  have p3 := Lib.hid (off8 (g := w.heap.size) HO3.out (fun a e => by have := (HO3.out.ge a e).1; omega) (.int .i64 M) (.slice B1 n1 d1) (.int .i64 S) (.slice B3 n3 d3) (.int .i64 L) (.int .i64 K) (.int .i64 T) (.int .i64 E))
  clear HO1 HO3
  go_wp2_with fail
  exact bodyPost_ret (v := .agg #[.int .i64 M, .slice B1 n1 d1, .int .i64 S, .slice B3 n3 d3, .int .i64 L, .int .i64 K, .int .i64 T, .int .i64 E]) (by simp [results, Tryd.results10, go_sem, c_q_0, c_q_1, c_q_2, c_q_3, c_q_4, c_q_5, c_q_6, c_q_7]) rfl ⟨M, B1, n1, d1, G, S, B3, n3, d3, Q, L, K, T, E, rfl, h1, h3, p1.out.mono (by omega), p3.out.mono (by omega), HG.out⟩
end Go.Proofs.YthekihggedgofaaDoor
