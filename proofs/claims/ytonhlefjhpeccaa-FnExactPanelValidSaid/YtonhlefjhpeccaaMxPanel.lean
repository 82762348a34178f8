/- Contracts of the laws' small functions on the struct Panel: sizes, copies, comparing, marking. No statement is proved here. -/
import Derived.Test.YtonhlefjhpeccaaAll
import Derived.Test.YtonhlefjhpeccaaDrX
import Derived.Test.YtonhlefjhpeccaaFrS
namespace Go.Proofs.Ytonhlefjhpeccaa
open Go.RowKit

theorem szBoolS_ok (A : Option Addr) (n c : Nat) (left : Int) (w : World) (h : (n : Int) ≤ left) (h2 : left ≤ 1048576) :
    Calls Try.prog 9 #[.slice A n c, .int .i64 left] w fun e w' => e = .returned (.int .i64 (left - n)) ∧ w = w' := by
  have h3 : ¬ (left - (n : Int) < 0) := by omega
  go_enter Try.func9, Try.ntmps9
  go_wp2
  go_ret
  exact ⟨rfl, rfl⟩
theorem szBoolS_no (A : Option Addr) (n c : Nat) (left : Int) (w : World) (h : left < (n : Int)) (h0 : 0 ≤ left) (hm : n ≤ maxLen) :
    Calls Try.prog 9 #[.slice A n c, .int .i64 left] w fun e w' => e = .returned (.int .i64 (-1)) ∧ w = w' := by
  unfold maxLen at hm
  have h3 : left - (n : Int) < 0 := by omega
  go_enter Try.func9, Try.ntmps9
  go_wp2
  go_ret
  exact ⟨rfl, rfl⟩

theorem info_bool : (Try.prog.info? 4).map (fun i => (i.zero, i.size, i.bytes)) = some (some (.bool false), 1, 1) := by kernel_rfl
/-- what a copy holds after k rounds -/
def copiedB (xs : List Bool) (n k : Nat) : List Value := bools (xs.take k) ++ List.replicate (n - k) (.bool false)
theorem copiedB_zero (xs : List Bool) (n : Nat) : copiedB xs n 0 = List.replicate n (.bool false) := by simp [copiedB, bools]
theorem copiedB_all (xs : List Bool) : copiedB xs xs.length xs.length = bools xs := by simp [copiedB]
theorem copiedB_succ (xs : List Bool) (n k : Nat) (hn : xs.length = n) (hk : k < n) : (copiedB xs n k).set k (.bool (xs.getD k false)) = copiedB xs n (k + 1) := by
  have h : k < xs.length := by omega
  unfold copiedB bools
  rw [List.take_succ_eq_append_getElem h, List.map_append]
  obtain ⟨m, hm⟩ : ∃ m, n - k = m + 1 := ⟨n - k - 1, by omega⟩
  rw [hm, show n - (k + 1) = m by omega, List.replicate_succ]
  rw [List.set_append_right _ _ (by simp; omega)]
  simp [h, show min k xs.length = k by omega]
set_option maxHeartbeats 400000 in
theorem toBoolS_any (A : Option Addr) (n c : Nat) (xs : List Bool) (w : World) (hn : xs.length = n) (hm : n ≤ 1048576) (hA : Rd w A (bools xs)) :
    Calls Try.prog 11 #[.slice A n c] w fun e w' => e = .returned (.slice (some ⟨w.heap.size, 0, none⟩) n n) ∧ Own w' w.heap.size 4 1 (some ⟨w.heap.size, 0, none⟩) n (bools xs) ∧ Below w.heap.size w w' := by
  have HA := Lib.hid hA; clear hA
  have HN := Lib.hid hn; clear hn
  obtain ⟨i0, hi0, hz0, hz1, hz2⟩ := info_parts info_bool
  go_enter Try.func11, Try.ntmps11
  go_wp2_with (at_make; refine wpList_make_full _ rfl _ _ _ rfl w.heap.size 4 i0 (.bool false) 1 Try.underlying22 hi0 hz0 hz1 .i64 .i64 n n n rfl rfl rfl rfl (by rw [hz2]; omega) (by unfold maxLen; omega) (Nat.le_refl _) ?_; intro w1 hown hgr)
  have hb0 : Below w.heap.size w w1 := (Below.refl _ _).grown hgr (Nat.le_refl _) (by simp)
  have hown0 : w1.ownsRow w.heap.size 4 1 (.slice (some ⟨w.heap.size, 0, none⟩) n n) n (copiedB xs n 0) := by
    rw [copiedB_zero]; simpa [Value.cells, toList_madeCells_one] using hown
  clear hown hgr hi0 hz0 hz1 hz2
  go_loopw [4] (fun i wr => ∃ k : Nat, k ≤ n ∧ i = .int .i64 k ∧ wr.ownsRow w.heap.size 4 1 (.slice (some ⟨w.heap.size, 0, none⟩) n n) n (copiedB xs n k) ∧ Below w.heap.size w wr) (fun i _ => n - (intOf i).toNat)
  case atStart => exact ⟨0, by omega, rfl, hown0, hb0⟩
  case round =>
    clear hown0 hb0
    obtain ⟨k, hk, rfl, hown, hb⟩ := hrel
    by_cases hlt : k < n
    · obtain ⟨b, o, rfl, hbl, hck⟩ := HA.out.bool (k := k) (by have := HN.out; omega)
      have hcr := (hb.cell (p := ⟨b, o + k, none⟩) hbl).trans hck
      clear hck
      have hfr := hown.frozenAt k
      obtain ⟨u, hcl⟩ := row_cell hown (j := k) (by omega)
      obtain ⟨hst, hgr⟩ := hown.stored k (.bool (xs.getD k false))
      rw [copiedB_succ xs n k HN.out hlt] at hst
      have hb' := hb.setCell (p := ⟨w.heap.size, k, none⟩) (Nat.le_refl _) (.bool (xs.getD k false))
      clear hown hb hgr
      generalize xs.getD k false = x at *
      go_wp2_with fail
      go_roundw
      case rel => exact ⟨k + 1, by omega, by go_num, hst, hb'⟩
      case measure => simp [intOf]; omega
    · go_wp2_with fail
      go_ret
      have hkn : k = n := by omega
      subst hkn
      have := HN.out
      subst this
      rw [copiedB_all] at hown
      obtain ⟨A', c', e, ho⟩ := own_of_row hown
      cases e
      exact ⟨rfl, ho, hb⟩
set_option maxHeartbeats 400000 in
/-- two slices that read alike are equal -/
theorem eqBoolS_same (A B : Option Addr) (n c d : Nat) (xs : List Bool) (w : World) (hn : xs.length = n) (hm : n ≤ 1048576) (hA : Rd w A (bools xs)) (hB : Rd w B (bools xs)) :
    Calls Try.prog 12 #[.slice A n c, .slice B n d] w fun e w' => e = .returned (.bool true) ∧ ∃ q, w' = w.drewN q := by
  have HA := Lib.hid hA; clear hA
  have HB := Lib.hid hB; clear hB
  have HN := Lib.hid hn; clear hn
  have hne : ((n : Int) != (n : Int)) = false := by simp
  go_enter Try.func12, Try.ntmps12
  go_wp2_with fail
  go_loopw [5] (fun i wr => ∃ k : Nat, k ≤ n ∧ i = .int .i64 k ∧ ∃ q, wr = w.drewN q) (fun i _ => n - (intOf i).toNat)
  case atStart => exact ⟨0, by omega, rfl, 0, rfl⟩
  case round =>
    obtain ⟨k, hk, rfl, q, rfl⟩ := hrel
    by_cases hlt : k < n
    · obtain ⟨b, o, rfl, _, hc1⟩ := HA.out.bool (k := k) (by have := HN.out; omega)
      obtain ⟨b2, o2, rfl, _, hc2⟩ := HB.out.bool (k := k) (by have := HN.out; omega)
      generalize xs.getD k false = x at *
      have hx : (x != x) = false := by simp
      go_wp2_with fail
      go_quiet (fail)
      go_wp2_with fail
      go_roundw
      case rel => exact ⟨k + 1, by omega, by go_num, _, rfl⟩
      case measure => simp [intOf]; omega
    · go_wp2_with fail
      go_ret
      exact ⟨rfl, q, rfl⟩

theorem szPanel_ok (A0 : Option Addr) (n0 c0 : Nat) (_x0 : List Bool) (z1 : Int) (z2 : Int) (z3 : Bool) (z4 : Int) (w : World) (h : n0 ≤ 1048576) :
    Calls Try.prog 4 #[.agg #[.slice A0 n0 c0, .int .i64 z1, .int .i64 z2, .bool z3, .int .i64 z4], .int .i64 1048576] w fun e w' => (∃ z : Int, e = .returned (.int .i64 z) ∧ 0 ≤ z) ∧ Below w.heap.size w w' := by
  have h3_0 : ¬ ((1048576 : Int) - (n0 : Int) < 0) := by omega
  go_enter Try.func4, Try.ntmps4
  go_wp2_with (first | (go_at_call 9; refine (szBoolS_ok _ _ _ _ _ (by omega) (by omega)).mono ?_; rintro e w' ⟨rfl, rfl⟩))
  go_ret
  exact ⟨⟨_, rfl, by omega⟩, allocB (Below.refl _ _) _⟩
theorem szPanel_no (A0 : Option Addr) (n0 c0 : Nat) (_x0 : List Bool) (z1 : Int) (z2 : Int) (z3 : Bool) (z4 : Int) (w : World) (h : ¬ n0 ≤ 1048576) (hm0 : n0 ≤ maxLen) :
    Calls Try.prog 4 #[.agg #[.slice A0 n0 c0, .int .i64 z1, .int .i64 z2, .bool z3, .int .i64 z4], .int .i64 1048576] w fun e w' => e = .returned (.int .i64 (-1)) ∧ Below w.heap.size w w' := by
  go_enter Try.func4, Try.ntmps4
  go_wp2_with fail
  refine (szBoolS_no _ _ _ _ _ (by omega) (by omega) hm0).mono ?_
  rintro e w' ⟨rfl, rfl⟩
  go_wp2_with fail
  go_ret
  exact ⟨rfl, allocB (Below.refl _ _) _⟩

set_option maxHeartbeats 1000000 in
theorem toPanel_any (A0 : Option Addr) (n0 c0 : Nat) (x0 : List Bool) (z1 : Int) (z2 : Int) (z3 : Bool) (z4 : Int) (w : World) (hn0 : x0.length = n0) (hm0 : n0 ≤ 1048576) (hA0 : Rd w A0 (bools x0)) :
    Calls Try.prog 6 #[.agg #[.slice A0 n0 c0, .int .i64 z1, .int .i64 z2, .bool z3, .int .i64 z4]] w fun e w' => ∃ B0 : Option Addr, e = .returned (.agg #[.slice B0 n0 n0, .int .i64 z1, .int .i64 z2, .bool z3, .int .i64 z4]) ∧ Own w' w.heap.size 4 1 B0 n0 (bools x0) ∧ Below w.heap.size w w' := by
  have HA0 := Lib.hid hA0; clear hA0
  have HN0 := Lib.hid hn0; clear hn0
  go_enter Try.func6, Try.ntmps6
  go_wp2_with fail
  refine (toBoolS_any A0 n0 c0 x0 _ HN0.out hm0 (HA0.out.below (allocB (allocB (allocB (Below.refl _ _) _) _) _))).mono ?_
  rintro e w1 ⟨rfl, ho, hbn⟩
  obtain ⟨B0, B1, B2⟩ := boxes3 w (.cells #[.slice A0 n0 c0, .int .i64 z1, .int .i64 z2, .bool z3, .int .i64 z4] 24) (.cells #[.slice none 0 0, .int .i64 0, .int .i64 0, .bool false, .int .i64 0] 27) (.cells #[.slice none 0 0, .int .i64 0, .int .i64 0, .bool false, .int .i64 0] 27)
  replace B0 := Lib.hid ((hbn.block w.heap.size (by simp; omega)).trans B0)
  replace B1 := Lib.hid ((hbn.block (w.heap.size + 1) (by simp)).trans B1)
  replace B2 : Hid (w1.heap[w.heap.size + 1 + 1]? = _) := Lib.hid ((hbn.block (w.heap.size + 2) (by simp)).trans B2)
  have hz := hbn.size
  simp at hz
  have HB := Lib.hid (seqB (allocB (allocB (allocB (Below.refl _ _) _) _) _) hbn)
  clear hbn
  have ho' : Own w1 (w.heap.size + 3) 4 1 (some ⟨w.heap.size + 1 + 1 + 1, 0, none⟩) n0 (bools x0) := by simpa using ho
  have HO0 := Lib.hid ho'; clear ho ho'
  have a0 := box_cell B0 0; have b0 := box_cell B2 0; have p0 := box_free B2 0
  have a1 := box_cell B0 1; have b1 := box_cell B2 1; have p1 := box_free B2 1
  have a2 := box_cell B0 2; have b2 := box_cell B2 2; have p2 := box_free B2 2
  have a3 := box_cell B0 3; have b3 := box_cell B2 3; have p3 := box_free B2 3
  have a4 := box_cell B0 4; have b4 := box_cell B2 4; have p4 := box_free B2 4
  simp at a0 b0 a1 b1 a2 b2 a3 b3 a4 b4
  have d0 := box_cell B1 0; have e0 := box_free B1 0
  have d1 := box_cell B1 1; have e1 := box_free B1 1
  have d2 := box_cell B1 2; have e2 := box_free B1 2
  have d3 := box_cell B1 3; have e3 := box_free B1 3
  have d4 := box_cell B1 4; have e4 := box_free B1 4
  simp at d0 d1 d2 d3 d4
  go_wp2_with fail
  replace B1 := st_box (g' := w.heap.size + 1 + 1) (j := 0) B1 (.slice (some ⟨w.heap.size + 1 + 1 + 1, 0, none⟩) n0 n0) (by omega)
  replace B1 := st_box (g' := w.heap.size + 1 + 1) (j := 1) B1 (.int .i64 z1) (by omega)
  replace B1 := st_box (g' := w.heap.size + 1 + 1) (j := 2) B1 (.int .i64 z2) (by omega)
  replace B1 := st_box (g' := w.heap.size + 1 + 1) (j := 3) B1 (.bool z3) (by omega)
  replace B1 := st_box (g' := w.heap.size + 1 + 1) (j := 4) B1 (.int .i64 z4) (by omega)
  have R0 := st_same B1 0 (.slice (some ⟨w.heap.size + 1 + 1 + 1, 0, none⟩) n0 n0)
  have r0 := box_cell R0 0
  have R1 := st_same R0 1 (.int .i64 z1)
  have r1 := box_cell R1 1
  have R2 := st_same R1 2 (.int .i64 z2)
  have r2 := box_cell R2 2
  have R3 := st_same R2 3 (.bool z3)
  have r3 := box_cell R3 3
  have R4 := st_same R3 4 (.int .i64 z4)
  have r4 := box_cell R4 4
  simp at r0 r1 r2 r3 r4
  refine bodyPost_ret (v := .agg #[.slice (some ⟨w.heap.size + 1 + 1 + 1, 0, none⟩) n0 n0, .int .i64 z1, .int .i64 z2, .bool z3, .int .i64 z4]) ?_ rfl ⟨_, rfl, ?_, ?_⟩
  · simp [results, Try.results6, go_sem, r0, r1, r2, r3, r4]
  · exact (own_set (own_set (own_set (own_set (own_set (own_set (own_set (own_set (own_set (own_set (HO0.out) (by omega)) (by omega)) (by omega)) (by omega)) (by omega)) (by omega)) (by omega)) (by omega)) (by omega)) (by omega)).mono (by omega)
  · exact be_set (be_set (be_set (be_set (be_set (be_set (be_set (be_set (be_set (be_set (HB.out) (by omega)) (by omega)) (by omega)) (by omega)) (by omega)) (by omega)) (by omega)) (by omega)) (by omega)) (by omega)

set_option maxHeartbeats 1000000 in
theorem eqPanel_same (A0 B0 : Option Addr) (n0 c0 d0 : Nat) (x0 : List Bool) (z1 : Int) (z2 : Int) (z3 : Bool) (z4 : Int) (w : World) (hn0 : x0.length = n0) (hm0 : n0 ≤ 1048576) (hA0 : Rd w A0 (bools x0)) (hB0 : Rd w B0 (bools x0)) :
    Calls Try.prog 8 #[.agg #[.slice A0 n0 c0, .int .i64 z1, .int .i64 z2, .bool z3, .int .i64 z4], .agg #[.slice B0 n0 d0, .int .i64 z1, .int .i64 z2, .bool z3, .int .i64 z4]] w fun e w' => e = .returned (.bool true) ∧ Below w.heap.size w w' := by
  have HA0 := Lib.hid hA0; clear hA0
  have HB0 := Lib.hid hB0; clear hB0
  have HN0 := Lib.hid hn0; clear hn0
  have he1 : (z1 != z1) = false := by simp
  have he2 : (z2 != z2) = false := by simp
  have he3 : (z3 != z3) = false := by simp
  have he4 : (z4 != z4) = false := by simp
  go_enter Try.func8, Try.ntmps8
  have hb := Lib.hid (allocB (allocB (Below.refl w.heap.size w) (.cells #[.slice A0 n0 c0, .int .i64 z1, .int .i64 z2, .bool z3, .int .i64 z4] 27)) (.cells #[.slice B0 n0 d0, .int .i64 z1, .int .i64 z2, .bool z3, .int .i64 z4] 27))
  go_wp2_with fail
  refine (eqBoolS_same A0 B0 n0 c0 d0 x0 _ HN0.out hm0 (HA0.out.below hb.out) (HB0.out.below hb.out)).mono ?_
  rintro e w' ⟨rfl, q0, rfl⟩
  replace hb := Lib.hid (drewNB hb.out q0)
  go_wp2_with fail
  go_ret
  exact ⟨rfl, hb.out⟩
end Go.Proofs.Ytonhlefjhpeccaa
