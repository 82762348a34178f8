/- Contracts of the laws' small functions on the struct Poll: sizes, copies, comparing, marking. No statement is proved here. -/
import Derived.Test.YthekihggedgofaaAll
import Derived.Test.YthekihggedgofaaDrX
import Derived.Test.YthekihggedgofaaFrS
namespace Go.Proofs.Ythekihggedgofaa
open Go.RowKit

theorem szIntS_ok (A : Option Addr) (n c : Nat) (left : Int) (w : World) (h : (n : Int) ≤ left) (h2 : left ≤ 1048576) :
    Calls Try.prog 16 #[.slice A n c, .int .i64 left] w fun e w' => e = .returned (.int .i64 (left - n)) ∧ w = w' := by
  have h3 : ¬ (left - (n : Int) < 0) := by omega
  go_enter Try.func16, Try.ntmps16
  go_wp2
  go_ret
  exact ⟨rfl, rfl⟩
theorem szIntS_no (A : Option Addr) (n c : Nat) (left : Int) (w : World) (h : left < (n : Int)) (h0 : 0 ≤ left) (hm : n ≤ maxLen) :
    Calls Try.prog 16 #[.slice A n c, .int .i64 left] w fun e w' => e = .returned (.int .i64 (-1)) ∧ w = w' := by
  unfold maxLen at hm
  have h3 : left - (n : Int) < 0 := by omega
  go_enter Try.func16, Try.ntmps16
  go_wp2
  go_ret
  exact ⟨rfl, rfl⟩

theorem szPoll_ok (z0 : Int) (A1 : Option Addr) (n1 c1 : Nat) (_x1 : List Int) (z2 : Int) (A3 : Option Addr) (n3 c3 : Nat) (_x3 : List Int) (z4 : Int) (z5 : Int) (z6 : Int) (z7 : Int) (w : World) (h : n1 + n3 ≤ 1048576) :
    Calls Try.prog 5 #[.agg #[.int .i64 z0, .slice A1 n1 c1, .int .i64 z2, .slice A3 n3 c3, .int .i64 z4, .int .i64 z5, .int .i64 z6, .int .i64 z7], .int .i64 1048576] w fun e w' => (∃ z : Int, e = .returned (.int .i64 z) ∧ 0 ≤ z) ∧ Below w.heap.size w w' := by
  have h3_0 : ¬ ((1048576 : Int) - (n1 : Int) < 0) := by omega
  have h3_1 : ¬ ((1048576 : Int) - (n1 : Int) - (n3 : Int) < 0) := by omega
  go_enter Try.func5, Try.ntmps5
  go_wp2_with (first | (go_at_call 16; refine (szIntS_ok _ _ _ _ _ (by omega) (by omega)).mono ?_; rintro e w' ⟨rfl, rfl⟩))
  go_ret
  exact ⟨⟨_, rfl, by omega⟩, allocB (Below.refl _ _) _⟩
theorem szPoll_no (z0 : Int) (A1 : Option Addr) (n1 c1 : Nat) (_x1 : List Int) (z2 : Int) (A3 : Option Addr) (n3 c3 : Nat) (_x3 : List Int) (z4 : Int) (z5 : Int) (z6 : Int) (z7 : Int) (w : World) (h : ¬ n1 + n3 ≤ 1048576) (hm1 : n1 ≤ maxLen) (hm3 : n3 ≤ maxLen) :
    Calls Try.prog 5 #[.agg #[.int .i64 z0, .slice A1 n1 c1, .int .i64 z2, .slice A3 n3 c3, .int .i64 z4, .int .i64 z5, .int .i64 z6, .int .i64 z7], .int .i64 1048576] w fun e w' => e = .returned (.int .i64 (-1)) ∧ Below w.heap.size w w' := by
  by_cases g0 : n1 ≤ 1048576
  case neg =>
    go_enter Try.func5, Try.ntmps5
    go_wp2_with fail
    refine (szIntS_no _ _ _ _ _ (by omega) (by omega) hm1).mono ?_
    rintro e w' ⟨rfl, rfl⟩
    go_wp2_with fail
    go_ret
    exact ⟨rfl, allocB (Below.refl _ _) _⟩
  go_enter Try.func5, Try.ntmps5
  go_wp2_with fail
  refine (szIntS_ok _ _ _ _ _ (by omega) (by omega)).mono ?_
  rintro e w' ⟨rfl, rfl⟩
  have h3_1 : ¬ ((1048576 : Int) - (n1 : Int) < 0) := by omega
  go_wp2_with fail
  refine (szIntS_no _ _ _ _ _ (by omega) (by omega) hm3).mono ?_
  rintro e w' ⟨rfl, rfl⟩
  go_wp2_with fail
  go_ret
  exact ⟨rfl, allocB (Below.refl _ _) _⟩

set_option maxHeartbeats 1000000 in
theorem toPoll_any (z0 : Int) (A1 : Option Addr) (n1 c1 : Nat) (x1 : List Int) (z2 : Int) (A3 : Option Addr) (n3 c3 : Nat) (x3 : List Int) (z4 : Int) (z5 : Int) (z6 : Int) (z7 : Int) (w : World) (hn1 : x1.length = n1) (hm1 : n1 ≤ 1048576) (hA1 : Rd w A1 (ints x1)) (hn3 : x3.length = n3) (hm3 : n3 ≤ 1048576) (hA3 : Rd w A3 (ints x3)) :
    Calls Try.prog 7 #[.agg #[.int .i64 z0, .slice A1 n1 c1, .int .i64 z2, .slice A3 n3 c3, .int .i64 z4, .int .i64 z5, .int .i64 z6, .int .i64 z7]] w fun e w' => ∃ B1 B3 : Option Addr, ∃ base : Nat, e = .returned (.agg #[.int .i64 z0, .slice B1 n1 n1, .int .i64 z2, .slice B3 n3 n3, .int .i64 z4, .int .i64 z5, .int .i64 z6, .int .i64 z7]) ∧ Own w' w.heap.size 3 1 B1 n1 (ints x1) ∧ Own w' base 3 1 B3 n3 (ints x3) ∧ w.heap.size ≤ base ∧ (∀ a, 0 < n1 → B1 = some a → a.block < base) ∧ Below w.heap.size w w' := by
  have HA1 := Lib.hid hA1; clear hA1
  have HN1 := Lib.hid hn1; clear hn1
  have HA3 := Lib.hid hA3; clear hA3
  have HN3 := Lib.hid hn3; clear hn3
  go_enter Try.func7, Try.ntmps7
  go_wp2_with fail
  refine (toIntS_any A1 n1 c1 x1 _ HN1.out hm1 (HA1.out.below (allocB (allocB (allocB (Below.refl _ _) _) _) _))).mono ?_
  rintro e w1 ⟨rfl, ho, hbn⟩
  obtain ⟨B0, B1, B2⟩ := boxes3 w (.cells #[.int .i64 z0, .slice A1 n1 c1, .int .i64 z2, .slice A3 n3 c3, .int .i64 z4, .int .i64 z5, .int .i64 z6, .int .i64 z7] 24) (.cells #[.int .i64 0, .slice none 0 0, .int .i64 0, .slice none 0 0, .int .i64 0, .int .i64 0, .int .i64 0, .int .i64 0] 27) (.cells #[.int .i64 z0, .slice none 0 0, .int .i64 0, .slice none 0 0, .int .i64 0, .int .i64 0, .int .i64 0, .int .i64 0] 27)
  replace B0 := Lib.hid ((hbn.block w.heap.size (by simp; omega)).trans B0)
  replace B1 := Lib.hid ((hbn.block (w.heap.size + 1) (by simp)).trans B1)
  replace B2 : Hid (w1.heap[w.heap.size + 1 + 1]? = _) := Lib.hid ((hbn.block (w.heap.size + 2) (by simp)).trans B2)
  have hz := hbn.size
  simp at hz
  have HB := Lib.hid (seqB (allocB (allocB (allocB (Below.refl _ _) _) _) _) hbn)
  clear hbn
  have ho' : Own w1 (w.heap.size + 3) 3 1 (some ⟨w.heap.size + 1 + 1 + 1, 0, none⟩) n1 (ints x1) := by simpa using ho
  have HO1 := Lib.hid ho'; clear ho ho'
  have a0 := box_cell B0 0; have b0 := box_cell B2 0; have p0 := box_free B2 0
  have a1 := box_cell B0 1; have b1 := box_cell B2 1; have p1 := box_free B2 1
  have a2 := box_cell B0 2; have b2 := box_cell B2 2; have p2 := box_free B2 2
  have a3 := box_cell B0 3; have b3 := box_cell B2 3; have p3 := box_free B2 3
  have a4 := box_cell B0 4; have b4 := box_cell B2 4; have p4 := box_free B2 4
  have a5 := box_cell B0 5; have b5 := box_cell B2 5; have p5 := box_free B2 5
  have a6 := box_cell B0 6; have b6 := box_cell B2 6; have p6 := box_free B2 6
  have a7 := box_cell B0 7; have b7 := box_cell B2 7; have p7 := box_free B2 7
  simp at a0 b0 a1 b1 a2 b2 a3 b3 a4 b4 a5 b5 a6 b6 a7 b7
  go_wp2_with fail
  replace B0 := st_box (g' := w.heap.size + 1 + 1) (j := 1) B0 (.slice (some ⟨w.heap.size + 1 + 1 + 1, 0, none⟩) n1 n1) (by omega)
  replace B1 := st_box (g' := w.heap.size + 1 + 1) (j := 1) B1 (.slice (some ⟨w.heap.size + 1 + 1 + 1, 0, none⟩) n1 n1) (by omega)
  replace B2 := st_same B2 1 (.slice (some ⟨w.heap.size + 1 + 1 + 1, 0, none⟩) n1 n1)
  replace HO1 := Lib.hid (own_set (g := w.heap.size + 1 + 1) (j := 1) (u := .slice (some ⟨w.heap.size + 1 + 1 + 1, 0, none⟩) n1 n1) HO1.out (by omega))
  replace HB := Lib.hid (be_set (g := w.heap.size + 1 + 1) (j := 1) (u := .slice (some ⟨w.heap.size + 1 + 1 + 1, 0, none⟩) n1 n1) HB.out (by omega))
  replace B0 := st_box (g' := w.heap.size + 1 + 1) (j := 2) B0 (.int .i64 z2) (by omega)
  replace B1 := st_box (g' := w.heap.size + 1 + 1) (j := 2) B1 (.int .i64 z2) (by omega)
  replace B2 := st_same B2 2 (.int .i64 z2)
  replace HO1 := Lib.hid (own_set (g := w.heap.size + 1 + 1) (j := 2) (u := .int .i64 z2) HO1.out (by omega))
  replace HB := Lib.hid (be_set (g := w.heap.size + 1 + 1) (j := 2) (u := .int .i64 z2) HB.out (by omega))
  replace B2 : Hid (((w1.setCell ⟨w.heap.size + 1 + 1, 1, none⟩ (.slice (some ⟨w.heap.size + 1 + 1 + 1, 0, none⟩) n1 n1)).setCell ⟨w.heap.size + 1 + 1, 2, none⟩ (.int .i64 z2)).heap[w.heap.size + 1 + 1]? = some (.cells #[.int .i64 z0, .slice (some ⟨w.heap.size + 1 + 1 + 1, 0, none⟩) n1 n1, .int .i64 z2, .slice none 0 0, .int .i64 0, .int .i64 0, .int .i64 0, .int .i64 0] 27 (0, 0))) := B2
  have hzs : ((w1.setCell ⟨w.heap.size + 1 + 1, 1, none⟩ (.slice (some ⟨w.heap.size + 1 + 1 + 1, 0, none⟩) n1 n1)).setCell ⟨w.heap.size + 1 + 1, 2, none⟩ (.int .i64 z2)).heap.size = w1.heap.size := by simp [World.setCell]
  refine (toIntS_any A3 n3 c3 x3 _ HN3.out hm3 (HA3.out.below HB.out)).mono ?_
  rintro e w2 ⟨rfl, ho, hbn⟩
  rw [hzs] at ho ⊢
  have HO3 := Lib.hid ho; clear ho
  have hsep : w.heap.size + 3 ≤ w1.heap.size ∧ w1.heap.size ≤ w2.heap.size := by have := hbn.size; rw [hzs] at this; omega
  have hlt1 := Lib.hid HO1.out.lt; rw [Hid, hzs] at hlt1; replace hlt1 := Lib.hid hlt1
  replace B0 := be_box B0 hbn
  replace B1 := be_box B1 hbn
  replace B2 := be_box B2 hbn
  replace HO1 := Lib.hid (HO1.out.below hbn)
  replace HB := Lib.hid (seqB HB.out hbn)
  clear hbn hzs
  clear a0 b0 p0 a1 b1 p1 a2 b2 p2 a3 b3 p3 a4 b4 p4 a5 b5 p5 a6 b6 p6 a7 b7 p7
  have a0 := box_cell B0 0; have b0 := box_cell B2 0; have p0 := box_free B2 0
  have a1 := box_cell B0 1; have b1 := box_cell B2 1; have p1 := box_free B2 1
  have a2 := box_cell B0 2; have b2 := box_cell B2 2; have p2 := box_free B2 2
  have a3 := box_cell B0 3; have b3 := box_cell B2 3; have p3 := box_free B2 3
  have a4 := box_cell B0 4; have b4 := box_cell B2 4; have p4 := box_free B2 4
  have a5 := box_cell B0 5; have b5 := box_cell B2 5; have p5 := box_free B2 5
  have a6 := box_cell B0 6; have b6 := box_cell B2 6; have p6 := box_free B2 6
  have a7 := box_cell B0 7; have b7 := box_cell B2 7; have p7 := box_free B2 7
  simp at a0 b0 a1 b1 a2 b2 a3 b3 a4 b4 a5 b5 a6 b6 a7 b7
  have d0 := box_cell B1 0; have e0 := box_free B1 0
  have d1 := box_cell B1 1; have e1 := box_free B1 1
  have d2 := box_cell B1 2; have e2 := box_free B1 2
  have d3 := box_cell B1 3; have e3 := box_free B1 3
  have d4 := box_cell B1 4; have e4 := box_free B1 4
  have d5 := box_cell B1 5; have e5 := box_free B1 5
  have d6 := box_cell B1 6; have e6 := box_free B1 6
  have d7 := box_cell B1 7; have e7 := box_free B1 7
  simp at d0 d1 d2 d3 d4 d5 d6 d7
  go_wp2_with fail
  replace B1 := st_box (g' := w.heap.size + 1 + 1) (j := 3) B1 (.slice (some ⟨w1.heap.size, 0, none⟩) n3 n3) (by omega)
  replace B1 := st_box (g' := w.heap.size + 1 + 1) (j := 4) B1 (.int .i64 z4) (by omega)
  replace B1 := st_box (g' := w.heap.size + 1 + 1) (j := 5) B1 (.int .i64 z5) (by omega)
  replace B1 := st_box (g' := w.heap.size + 1 + 1) (j := 6) B1 (.int .i64 z6) (by omega)
  replace B1 := st_box (g' := w.heap.size + 1 + 1) (j := 7) B1 (.int .i64 z7) (by omega)
  have R0 := st_same B1 0 (.int .i64 z0)
  have r0 := box_cell R0 0
  have R1 := st_same R0 1 (.slice (some ⟨w.heap.size + 1 + 1 + 1, 0, none⟩) n1 n1)
  have r1 := box_cell R1 1
  have R2 := st_same R1 2 (.int .i64 z2)
  have r2 := box_cell R2 2
  have R3 := st_same R2 3 (.slice (some ⟨w1.heap.size, 0, none⟩) n3 n3)
  have r3 := box_cell R3 3
  have R4 := st_same R3 4 (.int .i64 z4)
  have r4 := box_cell R4 4
  have R5 := st_same R4 5 (.int .i64 z5)
  have r5 := box_cell R5 5
  have R6 := st_same R5 6 (.int .i64 z6)
  have r6 := box_cell R6 6
  have R7 := st_same R6 7 (.int .i64 z7)
  have r7 := box_cell R7 7
  simp at r0 r1 r2 r3 r4 r5 r6 r7
  refine bodyPost_ret (v := .agg #[.int .i64 z0, .slice (some ⟨w.heap.size + 1 + 1 + 1, 0, none⟩) n1 n1, .int .i64 z2, .slice (some ⟨w1.heap.size, 0, none⟩) n3 n3, .int .i64 z4, .int .i64 z5, .int .i64 z6, .int .i64 z7]) ?_ rfl ⟨_, _, w1.heap.size, rfl, ?_, ?_, by omega, ?_, ?_⟩
  · simp [results, Try.results7, go_sem, r0, r1, r2, r3, r4, r5, r6, r7]
  · exact (own_set (own_set (own_set (own_set (own_set (own_set (own_set (own_set (own_set (own_set (own_set (own_set (own_set (HO1.out) (by omega)) (by omega)) (by omega)) (by omega)) (by omega)) (by omega)) (by omega)) (by omega)) (by omega)) (by omega)) (by omega)) (by omega)) (by omega)).mono (by omega)
  · exact own_set (own_set (own_set (own_set (own_set (own_set (own_set (own_set (own_set (own_set (own_set (own_set (own_set (HO3.out) (by omega)) (by omega)) (by omega)) (by omega)) (by omega)) (by omega)) (by omega)) (by omega)) (by omega)) (by omega)) (by omega)) (by omega)) (by omega)
  · exact hlt1.out
  · exact be_set (be_set (be_set (be_set (be_set (be_set (be_set (be_set (be_set (be_set (be_set (be_set (be_set (HB.out) (by omega)) (by omega)) (by omega)) (by omega)) (by omega)) (by omega)) (by omega)) (by omega)) (by omega)) (by omega)) (by omega)) (by omega)) (by omega)

set_option maxHeartbeats 1000000 in
theorem eqPoll_same (z0 : Int) (A1 B1 : Option Addr) (n1 c1 d1 : Nat) (x1 : List Int) (z2 : Int) (A3 B3 : Option Addr) (n3 c3 d3 : Nat) (x3 : List Int) (z4 : Int) (z5 : Int) (z6 : Int) (z7 : Int) (w : World) (hn1 : x1.length = n1) (hm1 : n1 ≤ 1048576) (hA1 : Rd w A1 (ints x1)) (hn3 : x3.length = n3) (hm3 : n3 ≤ 1048576) (hA3 : Rd w A3 (ints x3)) (hB1 : Rd w B1 (ints x1)) (hB3 : Rd w B3 (ints x3)) :
    Calls Try.prog 9 #[.agg #[.int .i64 z0, .slice A1 n1 c1, .int .i64 z2, .slice A3 n3 c3, .int .i64 z4, .int .i64 z5, .int .i64 z6, .int .i64 z7], .agg #[.int .i64 z0, .slice B1 n1 d1, .int .i64 z2, .slice B3 n3 d3, .int .i64 z4, .int .i64 z5, .int .i64 z6, .int .i64 z7]] w fun e w' => e = .returned (.bool true) ∧ Below w.heap.size w w' := by
  have HA1 := Lib.hid hA1; clear hA1
  have HB1 := Lib.hid hB1; clear hB1
  have HN1 := Lib.hid hn1; clear hn1
  have HA3 := Lib.hid hA3; clear hA3
  have HB3 := Lib.hid hB3; clear hB3
  have HN3 := Lib.hid hn3; clear hn3
  have he0 : (z0 != z0) = false := by simp
  have he2 : (z2 != z2) = false := by simp
  have he4 : (z4 != z4) = false := by simp
  have he5 : (z5 != z5) = false := by simp
  have he6 : (z6 != z6) = false := by simp
  have he7 : (z7 != z7) = false := by simp
  go_enter Try.func9, Try.ntmps9
  have hb := Lib.hid (allocB (allocB (Below.refl w.heap.size w) (.cells #[.int .i64 z0, .slice A1 n1 c1, .int .i64 z2, .slice A3 n3 c3, .int .i64 z4, .int .i64 z5, .int .i64 z6, .int .i64 z7] 27)) (.cells #[.int .i64 z0, .slice B1 n1 d1, .int .i64 z2, .slice B3 n3 d3, .int .i64 z4, .int .i64 z5, .int .i64 z6, .int .i64 z7] 27))
  go_wp2_with fail
  refine (eqIntS_same A1 B1 n1 c1 d1 x1 _ HN1.out hm1 (HA1.out.below hb.out) (HB1.out.below hb.out)).mono ?_
  rintro e w' ⟨rfl, q1, rfl⟩
  replace hb := Lib.hid (drewNB hb.out q1)
  go_wp2_with fail
  refine (eqIntS_same A3 B3 n3 c3 d3 x3 _ HN3.out hm3 (HA3.out.below hb.out) (HB3.out.below hb.out)).mono ?_
  rintro e w' ⟨rfl, q3, rfl⟩
  replace hb := Lib.hid (drewNB hb.out q3)
  go_wp2_with fail
  go_ret
  first | exact ⟨rfl, hb.out⟩ | exact ⟨rfl, drewNB (allocB (allocB (Below.refl _ _) _) _) _⟩
end Go.Proofs.Ythekihggedgofaa
