/- Contracts of DrawFrameValid and DrawFrameBytes. No statement is proved here. -/
import Derived.Test.YtddiloillgbneaaDoorDrF
namespace Go.Proofs.YtddiloillgbneaaDoor
open Go.RowKit
def DFr (w : World) (e : Ending) (w' : World) : Prop :=
  ∃ (a : Int) (l : List Int) (B : Option Addr) (c : Nat), e = .returned (.agg #[.int .i64 a, .slice B l.length c]) ∧ l.length ≤ 13 ∧ Fm B l.length c ∧ Own w' w.heap.size 3 1 B l.length (ints l) ∧ Below w.heap.size w w'
set_option maxHeartbeats 1000000 in
theorem dDrawFrameValid (A : Option Addr) (m c : Nat) (w : World) (hc : m ≤ c) (hm : m ≤ 1048576) (hA : RdB w A m) : Calls Tryd.prog 7 #[.slice A m c] w (DFr w) := by
  have HB := Lib.hid hA; clear hA
  have HG := Lib.hid (Below.refl w.heap.size w)
  go_enter Tryd.func7, Tryd.ntmps7
  have B_q := new_box w (.cells #[.int .i64 0, .slice none 0 0] 25)
  have Z_q : w.heap.size ≤ w.heap.size := by have := HG.out.size; first | omega | (simp at this; omega) | (simp at this ⊢; omega)
  replace HG := Lib.hid (allocB HG.out (.cells #[.int .i64 0, .slice none 0 0] 25))
  go_wp2_with fail
  refine (openC _ _ _ _ hc hm (rdb_below HB.out HG.out)).mono ?_
  rintro e w1 ⟨rfl, hR, hbn⟩
  have NR_q := blk_lt B_q.out
  replace B_q := be_box B_q hbn
  have hRe0 := HG.out.size
  replace HG := Lib.hid (seqB HG.out hbn)
  have HR := Lib.hid hR
  clear hbn hR HB
  obtain ⟨R, hRe⟩ : ∃ R, R = (w.alloc (.cells #[.int .i64 0, .slice none 0 0] 25)).heap.size := ⟨_, rfl⟩
  have HRw : w.heap.size ≤ R := by rw [hRe]; exact hRe0
  rw [← hRe] at HR NR_q ⊢
  clear hRe hRe0
  have hz := HG.out.size
  have hqlt := blk_lt B_q.out
  go_wp2_with fail
  refine (drFrame R 0 2 _ HR.out (by omega) (by omega) (by omega)).mono ?_
  rintro e w2 ⟨a, l, B, c9, rfl, hl, hF, ho, hR, hg⟩
  replace B_q := dr_box B_q hg (by omega)
  replace HR := Lib.hid hR
  replace HG := Lib.hid (gr_below HG.out hg HRw)
  clear hR hg
  have k_q_3 : w2.cell? ⟨w.heap.size, 0, none⟩ = some (.int .i64 0) := box_cell B_q 0
  have y_q_3 : w2.frozen? ⟨w.heap.size, 0, none⟩ = false := box_free B_q 0
  replace B_q := st_same B_q 0 (.int .i64 a)
  replace HG := Lib.hid (be_set (g := w.heap.size) (j := 0) (u := .int .i64 a) HG.out  Z_q)
  replace B_q : Hid ((w2.setCell ⟨w.heap.size, 0, none⟩ (.int .i64 a)).heap[w.heap.size]? = some (.cells #[.int .i64 a, .slice none 0 0] 25 (0, 0))) := B_q
  have k_q_4 : (w2.setCell ⟨w.heap.size, 0, none⟩ (.int .i64 a)).cell? ⟨w.heap.size, 1, none⟩ = some (.slice none 0 0) := box_cell B_q 1
  have y_q_4 : (w2.setCell ⟨w.heap.size, 0, none⟩ (.int .i64 a)).frozen? ⟨w.heap.size, 1, none⟩ = false := box_free B_q 1
  replace B_q := st_same B_q 1 (.slice B l.length c9)
  replace HG := Lib.hid (be_set (g := w.heap.size) (j := 1) (u := .slice B l.length c9) HG.out  Z_q)
  replace B_q : Hid (((w2.setCell ⟨w.heap.size, 0, none⟩ (.int .i64 a)).setCell ⟨w.heap.size, 1, none⟩ (.slice B l.length c9)).heap[w.heap.size]? = some (.cells #[.int .i64 a, .slice B l.length c9] 25 (0, 0))) := B_q
  have c_q_0 : ((w2.setCell ⟨w.heap.size, 0, none⟩ (.int .i64 a)).setCell ⟨w.heap.size, 1, none⟩ (.slice B l.length c9)).cell? ⟨w.heap.size, 0, none⟩ = some (.int .i64 a) := box_cell B_q 0
  have c_q_1 : ((w2.setCell ⟨w.heap.size, 0, none⟩ (.int .i64 a)).setCell ⟨w.heap.size, 1, none⟩ (.slice B l.length c9)).cell? ⟨w.heap.size, 1, none⟩ = some (.slice B l.length c9) := box_cell B_q 1
  have ho2 := Lib.hid ((own_set (g := w.heap.size) (j := 1) (u := .slice B l.length c9) (own_set (g := w.heap.size) (j := 0) (u := .int .i64 a) ho (by omega)) (by omega)).mono (show w.heap.size ≤ _ by omega))
  go_wp2_with fail
  exact bodyPost_ret (v := .agg #[.int .i64 a, .slice B l.length c9]) (by simp [results, Tryd.results7, go_sem, c_q_0, c_q_1]) rfl ⟨a, l, B, c9, rfl, hl, hF, ho2.out, HG.out⟩
set_option maxHeartbeats 1000000 in
theorem dDrawFrameBytes (A : Option Addr) (m c : Nat) (w : World) (hc : m ≤ c) (hm : m ≤ 1048576) (hA : RdB w A m) : Calls Tryd.prog 11 #[.slice A m c] w (DFr w) := by
  have HB := Lib.hid hA; clear hA
  have HG := Lib.hid (Below.refl w.heap.size w)
  go_enter Tryd.func11, Tryd.ntmps11
  have B_q := new_box w (.cells #[.int .i64 0, .slice none 0 0] 25)
  have Z_q : w.heap.size ≤ w.heap.size := by have := HG.out.size; first | omega | (simp at this; omega) | (simp at this ⊢; omega)
  replace HG := Lib.hid (allocB HG.out (.cells #[.int .i64 0, .slice none 0 0] 25))
  go_wp2_with fail
  refine (openC _ _ _ _ hc hm (rdb_below HB.out HG.out)).mono ?_
  rintro e w1 ⟨rfl, hR, hbn⟩
  have NR_q := blk_lt B_q.out
  replace B_q := be_box B_q hbn
  have hRe0 := HG.out.size
  replace HG := Lib.hid (seqB HG.out hbn)
  have HR := Lib.hid hR
  clear hbn hR HB
  obtain ⟨R, hRe⟩ : ∃ R, R = (w.alloc (.cells #[.int .i64 0, .slice none 0 0] 25)).heap.size := ⟨_, rfl⟩
  have HRw : w.heap.size ≤ R := by rw [hRe]; exact hRe0
  rw [← hRe] at HR NR_q ⊢
  clear hRe hRe0
  have hz := HG.out.size
  have hqlt := blk_lt B_q.out
  go_wp2_with fail
  refine (drFrame R 0 6 _ HR.out (by omega) (by omega) (by omega)).mono ?_
  rintro e w2 ⟨a, l, B, c9, rfl, hl, hF, ho, hR, hg⟩
  replace B_q := dr_box B_q hg (by omega)
  replace HR := Lib.hid hR
  replace HG := Lib.hid (gr_below HG.out hg HRw)
  clear hR hg
  have k_q_3 : w2.cell? ⟨w.heap.size, 0, none⟩ = some (.int .i64 0) := box_cell B_q 0
  have y_q_3 : w2.frozen? ⟨w.heap.size, 0, none⟩ = false := box_free B_q 0
  replace B_q := st_same B_q 0 (.int .i64 a)
  replace HG := Lib.hid (be_set (g := w.heap.size) (j := 0) (u := .int .i64 a) HG.out  Z_q)
  replace B_q : Hid ((w2.setCell ⟨w.heap.size, 0, none⟩ (.int .i64 a)).heap[w.heap.size]? = some (.cells #[.int .i64 a, .slice none 0 0] 25 (0, 0))) := B_q
  have k_q_4 : (w2.setCell ⟨w.heap.size, 0, none⟩ (.int .i64 a)).cell? ⟨w.heap.size, 1, none⟩ = some (.slice none 0 0) := box_cell B_q 1
  have y_q_4 : (w2.setCell ⟨w.heap.size, 0, none⟩ (.int .i64 a)).frozen? ⟨w.heap.size, 1, none⟩ = false := box_free B_q 1
  replace B_q := st_same B_q 1 (.slice B l.length c9)
  replace HG := Lib.hid (be_set (g := w.heap.size) (j := 1) (u := .slice B l.length c9) HG.out  Z_q)
  replace B_q : Hid (((w2.setCell ⟨w.heap.size, 0, none⟩ (.int .i64 a)).setCell ⟨w.heap.size, 1, none⟩ (.slice B l.length c9)).heap[w.heap.size]? = some (.cells #[.int .i64 a, .slice B l.length c9] 25 (0, 0))) := B_q
  have c_q_0 : ((w2.setCell ⟨w.heap.size, 0, none⟩ (.int .i64 a)).setCell ⟨w.heap.size, 1, none⟩ (.slice B l.length c9)).cell? ⟨w.heap.size, 0, none⟩ = some (.int .i64 a) := box_cell B_q 0
  have c_q_1 : ((w2.setCell ⟨w.heap.size, 0, none⟩ (.int .i64 a)).setCell ⟨w.heap.size, 1, none⟩ (.slice B l.length c9)).cell? ⟨w.heap.size, 1, none⟩ = some (.slice B l.length c9) := box_cell B_q 1
  have ho2 := Lib.hid ((own_set (g := w.heap.size) (j := 1) (u := .slice B l.length c9) (own_set (g := w.heap.size) (j := 0) (u := .int .i64 a) ho (by omega)) (by omega)).mono (show w.heap.size ≤ _ by omega))
  go_wp2_with fail
  exact bodyPost_ret (v := .agg #[.int .i64 a, .slice B l.length c9]) (by simp [results, Tryd.results11, go_sem, c_q_0, c_q_1]) rfl ⟨a, l, B, c9, rfl, hl, hF, ho2.out, HG.out⟩
end Go.Proofs.YtddiloillgbneaaDoor
