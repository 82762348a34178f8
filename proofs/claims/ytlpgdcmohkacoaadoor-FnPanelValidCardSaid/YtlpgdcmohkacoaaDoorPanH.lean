/- The contract of DrawPanelValid. No statement is proved here. -/
import Derived.Test.YtlpgdcmohkacoaaDoorPanG
namespace Go.Proofs.YtlpgdcmohkacoaaDoor
open Go.RowKit
def DPan (w : World) (e : Ending) (w' : World) : Prop :=
  ∃ (on : List Bool) (who i : Int) (tb : Bool) (left : Int) (B : Option Addr) (n d : Nat), e = .returned (.agg #[.slice B n d, .int .i64 who, .int .i64 i, .bool tb, .int .i64 left]) ∧ on.length = n ∧ n ≤ 10 ∧ w'.ownsRow w.heap.size 4 1 (.slice B n d) n (bools on) ∧ Below w.heap.size w w'
set_option maxHeartbeats 1000000 in
theorem dDrawPanelValid (A : Option Addr) (m c : Nat) (w : World) (hc : m ≤ c) (hm : m ≤ 1048576) (hA : RdB w A m) : Calls Tryd.prog 4 #[.slice A m c] w (DPan w) := by
  have HB := Lib.hid hA; clear hA
  have HG := Lib.hid (Below.refl w.heap.size w)
  go_enter Tryd.func4, Tryd.ntmps4
  have B_q := new_box w (.cells #[.slice none 0 0, .int .i64 0, .int .i64 0, .bool false, .int .i64 0] 25)
  have Z_q : w.heap.size ≤ w.heap.size := by have := HG.out.size; first | omega | (simp at this; omega) | (simp at this ⊢; omega)
  replace HG := Lib.hid (allocB HG.out (.cells #[.slice none 0 0, .int .i64 0, .int .i64 0, .bool false, .int .i64 0] 25))
  go_wp2_with fail
  refine (openC _ _ _ _ hc hm (rdb_below HB.out HG.out)).mono ?_
  rintro e w1 ⟨rfl, hR, hbn⟩
  have NR_q := blk_lt B_q.out
  replace B_q := be_box B_q hbn
  have hRe0 := HG.out.size
  replace HG := Lib.hid (seqB HG.out hbn)
  have HR := Lib.hid hR
  clear hbn hR HB
  obtain ⟨R, hRe⟩ : ∃ R, R = (w.alloc (.cells #[.slice none 0 0, .int .i64 0, .int .i64 0, .bool false, .int .i64 0] 25)).heap.size := ⟨_, rfl⟩
  have HRw : w.heap.size ≤ R := by rw [hRe]; exact hRe0
  rw [← hRe] at HR NR_q ⊢
  clear hRe hRe0
  have hz := HG.out.size
  have hqlt := blk_lt B_q.out
  go_wp2_with fail
  refine (drPan R 0 _ HR.out (by omega)).mono ?_
  rintro e w2 ⟨on, who, i, tb, left, B, n, d, rfl, hn, hn10, ho, hR, hg⟩
  replace B_q := dr_box B_q hg (by omega)
  replace HR := Lib.hid hR
  replace HG := Lib.hid (gr_below HG.out hg HRw)
  clear hR hg
  have k_q_3 : w2.cell? ⟨w.heap.size, 0, none⟩ = some (.slice none 0 0) := box_cell B_q 0
  have y_q_3 : w2.frozen? ⟨w.heap.size, 0, none⟩ = false := box_free B_q 0
  replace B_q := st_same B_q 0 (.slice B n d)
  replace HG := Lib.hid (be_set (g := w.heap.size) (j := 0) (u := .slice B n d) HG.out  Z_q)
  replace B_q : Hid ((w2.setCell ⟨w.heap.size, 0, none⟩ (.slice B n d)).heap[w.heap.size]? = some (.cells #[.slice B n d, .int .i64 0, .int .i64 0, .bool false, .int .i64 0] 25 (0, 0))) := B_q
  have k_q_4 : (w2.setCell ⟨w.heap.size, 0, none⟩ (.slice B n d)).cell? ⟨w.heap.size, 1, none⟩ = some (.int .i64 0) := box_cell B_q 1
  have y_q_4 : (w2.setCell ⟨w.heap.size, 0, none⟩ (.slice B n d)).frozen? ⟨w.heap.size, 1, none⟩ = false := box_free B_q 1
  replace B_q := st_same B_q 1 (.int .i64 who)
  replace HG := Lib.hid (be_set (g := w.heap.size) (j := 1) (u := .int .i64 who) HG.out  Z_q)
  replace B_q : Hid (((w2.setCell ⟨w.heap.size, 0, none⟩ (.slice B n d)).setCell ⟨w.heap.size, 1, none⟩ (.int .i64 who)).heap[w.heap.size]? = some (.cells #[.slice B n d, .int .i64 who, .int .i64 0, .bool false, .int .i64 0] 25 (0, 0))) := B_q
  have k_q_5 : ((w2.setCell ⟨w.heap.size, 0, none⟩ (.slice B n d)).setCell ⟨w.heap.size, 1, none⟩ (.int .i64 who)).cell? ⟨w.heap.size, 2, none⟩ = some (.int .i64 0) := box_cell B_q 2
  have y_q_5 : ((w2.setCell ⟨w.heap.size, 0, none⟩ (.slice B n d)).setCell ⟨w.heap.size, 1, none⟩ (.int .i64 who)).frozen? ⟨w.heap.size, 2, none⟩ = false := box_free B_q 2
  replace B_q := st_same B_q 2 (.int .i64 i)
  replace HG := Lib.hid (be_set (g := w.heap.size) (j := 2) (u := .int .i64 i) HG.out  Z_q)
  replace B_q : Hid ((((w2.setCell ⟨w.heap.size, 0, none⟩ (.slice B n d)).setCell ⟨w.heap.size, 1, none⟩ (.int .i64 who)).setCell ⟨w.heap.size, 2, none⟩ (.int .i64 i)).heap[w.heap.size]? = some (.cells #[.slice B n d, .int .i64 who, .int .i64 i, .bool false, .int .i64 0] 25 (0, 0))) := B_q
  have k_q_6 : (((w2.setCell ⟨w.heap.size, 0, none⟩ (.slice B n d)).setCell ⟨w.heap.size, 1, none⟩ (.int .i64 who)).setCell ⟨w.heap.size, 2, none⟩ (.int .i64 i)).cell? ⟨w.heap.size, 3, none⟩ = some (.bool false) := box_cell B_q 3
  have y_q_6 : (((w2.setCell ⟨w.heap.size, 0, none⟩ (.slice B n d)).setCell ⟨w.heap.size, 1, none⟩ (.int .i64 who)).setCell ⟨w.heap.size, 2, none⟩ (.int .i64 i)).frozen? ⟨w.heap.size, 3, none⟩ = false := box_free B_q 3
  replace B_q := st_same B_q 3 (.bool tb)
  replace HG := Lib.hid (be_set (g := w.heap.size) (j := 3) (u := .bool tb) HG.out  Z_q)
  replace B_q : Hid (((((w2.setCell ⟨w.heap.size, 0, none⟩ (.slice B n d)).setCell ⟨w.heap.size, 1, none⟩ (.int .i64 who)).setCell ⟨w.heap.size, 2, none⟩ (.int .i64 i)).setCell ⟨w.heap.size, 3, none⟩ (.bool tb)).heap[w.heap.size]? = some (.cells #[.slice B n d, .int .i64 who, .int .i64 i, .bool tb, .int .i64 0] 25 (0, 0))) := B_q
  have k_q_7 : ((((w2.setCell ⟨w.heap.size, 0, none⟩ (.slice B n d)).setCell ⟨w.heap.size, 1, none⟩ (.int .i64 who)).setCell ⟨w.heap.size, 2, none⟩ (.int .i64 i)).setCell ⟨w.heap.size, 3, none⟩ (.bool tb)).cell? ⟨w.heap.size, 4, none⟩ = some (.int .i64 0) := box_cell B_q 4
  have y_q_7 : ((((w2.setCell ⟨w.heap.size, 0, none⟩ (.slice B n d)).setCell ⟨w.heap.size, 1, none⟩ (.int .i64 who)).setCell ⟨w.heap.size, 2, none⟩ (.int .i64 i)).setCell ⟨w.heap.size, 3, none⟩ (.bool tb)).frozen? ⟨w.heap.size, 4, none⟩ = false := box_free B_q 4
  replace B_q := st_same B_q 4 (.int .i64 left)
  replace HG := Lib.hid (be_set (g := w.heap.size) (j := 4) (u := .int .i64 left) HG.out  Z_q)
  replace B_q : Hid ((((((w2.setCell ⟨w.heap.size, 0, none⟩ (.slice B n d)).setCell ⟨w.heap.size, 1, none⟩ (.int .i64 who)).setCell ⟨w.heap.size, 2, none⟩ (.int .i64 i)).setCell ⟨w.heap.size, 3, none⟩ (.bool tb)).setCell ⟨w.heap.size, 4, none⟩ (.int .i64 left)).heap[w.heap.size]? = some (.cells #[.slice B n d, .int .i64 who, .int .i64 i, .bool tb, .int .i64 left] 25 (0, 0))) := B_q
  have c_q_0 : (((((w2.setCell ⟨w.heap.size, 0, none⟩ (.slice B n d)).setCell ⟨w.heap.size, 1, none⟩ (.int .i64 who)).setCell ⟨w.heap.size, 2, none⟩ (.int .i64 i)).setCell ⟨w.heap.size, 3, none⟩ (.bool tb)).setCell ⟨w.heap.size, 4, none⟩ (.int .i64 left)).cell? ⟨w.heap.size, 0, none⟩ = some (.slice B n d) := box_cell B_q 0
  have c_q_1 : (((((w2.setCell ⟨w.heap.size, 0, none⟩ (.slice B n d)).setCell ⟨w.heap.size, 1, none⟩ (.int .i64 who)).setCell ⟨w.heap.size, 2, none⟩ (.int .i64 i)).setCell ⟨w.heap.size, 3, none⟩ (.bool tb)).setCell ⟨w.heap.size, 4, none⟩ (.int .i64 left)).cell? ⟨w.heap.size, 1, none⟩ = some (.int .i64 who) := box_cell B_q 1
  have c_q_2 : (((((w2.setCell ⟨w.heap.size, 0, none⟩ (.slice B n d)).setCell ⟨w.heap.size, 1, none⟩ (.int .i64 who)).setCell ⟨w.heap.size, 2, none⟩ (.int .i64 i)).setCell ⟨w.heap.size, 3, none⟩ (.bool tb)).setCell ⟨w.heap.size, 4, none⟩ (.int .i64 left)).cell? ⟨w.heap.size, 2, none⟩ = some (.int .i64 i) := box_cell B_q 2
  have c_q_3 : (((((w2.setCell ⟨w.heap.size, 0, none⟩ (.slice B n d)).setCell ⟨w.heap.size, 1, none⟩ (.int .i64 who)).setCell ⟨w.heap.size, 2, none⟩ (.int .i64 i)).setCell ⟨w.heap.size, 3, none⟩ (.bool tb)).setCell ⟨w.heap.size, 4, none⟩ (.int .i64 left)).cell? ⟨w.heap.size, 3, none⟩ = some (.bool tb) := box_cell B_q 3
  have c_q_4 : (((((w2.setCell ⟨w.heap.size, 0, none⟩ (.slice B n d)).setCell ⟨w.heap.size, 1, none⟩ (.int .i64 who)).setCell ⟨w.heap.size, 2, none⟩ (.int .i64 i)).setCell ⟨w.heap.size, 3, none⟩ (.bool tb)).setCell ⟨w.heap.size, 4, none⟩ (.int .i64 left)).cell? ⟨w.heap.size, 4, none⟩ = some (.int .i64 left) := box_cell B_q 4
  have HN := Lib.hid hn
  have ho2 := Lib.hid (row5 (g := w.heap.size) (x := .slice B n d) (y := .int .i64 who) (z := .int .i64 i) (u := .bool tb) (v := .int .i64 left) (base := w.heap.size) ho (by omega) (by omega))
  clear ho hn
  go_wp2_with fail
  exact bodyPost_ret (v := .agg #[.slice B n d, .int .i64 who, .int .i64 i, .bool tb, .int .i64 left]) (by simp [results, Tryd.results4, go_sem, c_q_0, c_q_1, c_q_2, c_q_3, c_q_4]) rfl ⟨on, who, i, tb, left, B, n, d, rfl, HN.out, hn10, ho2.out, HG.out⟩
end Go.Proofs.YtlpgdcmohkacoaaDoor
