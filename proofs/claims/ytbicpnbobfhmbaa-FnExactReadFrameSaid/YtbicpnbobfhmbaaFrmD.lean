/- Contracts of the laws' small functions on frames: sizes, copies, comparing, marking. No statement is proved here. -/
import Derived.Test.YtbicpnbobfhmbaaFrmC
import Derived.Test.YtbicpnbobfhmbaaDrX
namespace Go.Proofs.Ytbicpnbobfhmbaa
open Go.RowKit

theorem szIntS_ok (A : Option Addr) (n c : Nat) (left : Int) (w : World) (h : (n : Int) ≤ left) (h2 : left ≤ 1048576) :
    Calls Try.prog 27 #[.slice A n c, .int .i64 left] w fun e w' => e = .returned (.int .i64 (left - n)) ∧ w = w' := by
  have h3 : ¬ (left - (n : Int) < 0) := by omega
  go_enter Try.func27, Try.ntmps27
  go_wp2
  go_ret
  exact ⟨rfl, rfl⟩
theorem szIntS_no (A : Option Addr) (n c : Nat) (left : Int) (w : World) (h : left < (n : Int)) (h0 : 0 ≤ left) (hm : n ≤ maxLen) :
    Calls Try.prog 27 #[.slice A n c, .int .i64 left] w fun e w' => e = .returned (.int .i64 (-1)) ∧ w = w' := by
  unfold maxLen at hm
  have h3 : left - (n : Int) < 0 := by omega
  go_enter Try.func27, Try.ntmps27
  go_wp2
  go_ret
  exact ⟨rfl, rfl⟩
theorem szFr_ok (a : Int) (A : Option Addr) (n c : Nat) (w : World) (h : n ≤ 1048576) :
    Calls Try.prog 7 #[.agg #[.int .i64 a, .slice A n c], .int .i64 1048576] w fun e w' => e = .returned (.int .i64 (1048576 - n)) ∧ Below w.heap.size w w' := by
  have h3 : ¬ ((1048576 : Int) - (n : Int) < 0) := by omega
  go_enter Try.func7, Try.ntmps7
  go_wp2_with (go_at_call 27; refine (szIntS_ok _ _ _ _ _ (by omega) (by omega)).mono ?_; rintro e w' ⟨rfl, rfl⟩)
  go_ret
  exact ⟨rfl, allocB (Below.refl _ _) _⟩
theorem szFr_no (a : Int) (A : Option Addr) (n c : Nat) (w : World) (h : ¬ n ≤ 1048576) (hm : n ≤ maxLen) :
    Calls Try.prog 7 #[.agg #[.int .i64 a, .slice A n c], .int .i64 1048576] w fun e w' => e = .returned (.int .i64 (-1)) ∧ Below w.heap.size w w' := by
  go_enter Try.func7, Try.ntmps7
  go_wp2_with (go_at_call 27; refine (szIntS_no _ _ _ _ _ (by omega) (by omega) hm).mono ?_; rintro e w' ⟨rfl, rfl⟩)
  go_ret
  exact ⟨rfl, allocB (Below.refl _ _) _⟩
set_option maxHeartbeats 400000 in
theorem toFr (a : Int) (A : Option Addr) (n c : Nat) (b : List Int) (w : World) (hn : b.length = n) (hm : n ≤ 1048576) (hA : Rd w A (ints b)) :
    Calls Try.prog 9 #[.agg #[.int .i64 a, .slice A n c]] w fun e w' => ∃ g : Nat, e = .returned (.agg #[.int .i64 a, .slice (some ⟨g, 0, none⟩) n n]) ∧ Own w' w.heap.size 3 1 (some ⟨g, 0, none⟩) n (ints b) ∧ Below w.heap.size w w' := by
  have HA := Lib.hid hA; clear hA
  have HN := Lib.hid hn; clear hn
  go_enter Try.func9, Try.ntmps9
  go_wp2_with fail
  refine (toIntS_any A n c b _ HN.out hm (HA.out.below (allocB (allocB (allocB (Below.refl _ _) _) _) _))).mono ?_
  rintro e w1 ⟨rfl, ho, hbn⟩
  obtain ⟨_, B1, B2⟩ := boxes3 w (.cells #[.int .i64 a, .slice A n c] 24) (.cells #[.int .i64 0, .slice none 0 0] 27) (.cells #[.int .i64 a, .slice none 0 0] 27)
  replace B1 := Lib.hid ((hbn.block (w.heap.size + 1) (by simp)).trans B1)
  replace B2 := Lib.hid ((hbn.block (w.heap.size + 2) (by simp)).trans B2)
  have hz := hbn.size
  simp at hz
  have HB := Lib.hid (seqB (allocB (allocB (allocB (Below.refl _ _) _) _) _) hbn)
  clear hbn
  have ho' : Own w1 (w.heap.size + 3) 3 1 (some ⟨w.heap.size + 3, 0, none⟩) n (ints b) := by simpa using ho
  have HO := Lib.hid ho'; clear ho ho'
  have c0 := box_cell B2 0
  have c1 := box_cell B2 1
  have f1 := box_free B2 1
  have d0 := box_cell B1 0
  have d1 := box_cell B1 1
  have e0 := box_free B1 0
  have e1 := box_free B1 1
  simp at c0 c1 d0 d1
  go_wp2_with fail
  have R1 := st_same (st_box (g' := w.heap.size + 1 + 1) (j := 1) B1 (.slice (some ⟨w.heap.size + 1 + 1 + 1, 0, none⟩) n n) (by omega)) 0 (.int .i64 a)
  have R2 := st_same R1 1 (.slice (some ⟨w.heap.size + 1 + 1 + 1, 0, none⟩) n n)
  have r1 := box_cell R1 0
  have r2 := box_cell R2 1
  simp at r1 r2
  refine bodyPost_ret (v := .agg #[.int .i64 a, .slice (some ⟨w.heap.size + 3, 0, none⟩) n n]) ?_ rfl ⟨_, rfl, ?_, ?_⟩
  · simp [results, Try.results9, go_sem, r1, r2]
  · exact (own_set (own_set (own_set HO.out (by omega)) (by omega)) (by omega)).mono (by omega)
  · exact be_set (be_set (be_set HB.out (by omega)) (by omega)) (by omega)
set_option maxHeartbeats 400000 in
theorem eqFr (a : Int) (A B : Option Addr) (n c d : Nat) (b : List Int) (w : World) (hn : b.length = n) (hm : n ≤ 1048576) (hA : Rd w A (ints b)) (hB : Rd w B (ints b)) :
    Calls Try.prog 11 #[.agg #[.int .i64 a, .slice A n c], .agg #[.int .i64 a, .slice B n d]] w fun e w' => e = .returned (.bool true) ∧ Below w.heap.size w w' := by
  have HA := Lib.hid hA; clear hA
  have HB := Lib.hid hB; clear hB
  have HN := Lib.hid hn; clear hn
  have hne : (a != a) = false := by simp
  go_enter Try.func11, Try.ntmps11
  go_wp2_with fail
  refine (eqIntS_same A B n c d b _ HN.out hm (HA.out.below (allocB (allocB (Below.refl _ _) _) _)) (HB.out.below (allocB (allocB (Below.refl _ _) _) _))).mono ?_
  rintro e w1 ⟨rfl, q, rfl⟩
  go_wp2_with fail
  go_ret
  exact ⟨rfl, drewNB (allocB (allocB (Below.refl _ _) _) _) _⟩
set_option maxHeartbeats 400000 in
theorem markFr (base : Nat) (a : Int) (A : Option Addr) (n c : Nat) (m : Int) (cs : List Value) (w : World) (hm : n ≤ 1048576) (h0 : 0 ≤ m) (h1 : m ≤ 10000000) (hA : Own w base 3 1 A n cs) :
    Calls Try.prog 15 #[.agg #[.int .i64 a, .slice A n c], .int .i64 m] w fun e w' => e = .returned (.int .i64 (m + n)) ∧ Own w' base 3 1 A n (ints (marks m n)) ∧ ∃ w1, Below w.heap.size w w1 ∧ Turned A n w1 w' := by
  have HA := Lib.hid hA; clear hA
  go_enter Try.func15, Try.ntmps15
  go_wp2_with fail
  refine (markIntS_own base A n c m cs _ hm h0 h1 (HA.out.below (allocB (Below.refl _ _) _))).mono ?_
  rintro e w1 ⟨rfl, ho, hT⟩
  go_wp2_with fail
  go_ret
  exact ⟨rfl, ho, _, allocB (Below.refl _ _) _, hT⟩
set_option maxHeartbeats 400000 in
theorem heldFr (a : Int) (A : Option Addr) (n c : Nat) (m : Int) (w : World) (hm : n ≤ 1048576) (h0 : 0 ≤ m) (h1 : m ≤ 10000000) (hA : Rd w A (ints (marks m n))) :
    Calls Try.prog 21 #[.agg #[.int .i64 a, .slice A n c], .int .i64 m] w fun e w' => e = .returned (.int .i64 (m + n)) ∧ Below w.heap.size w w' := by
  have HA := Lib.hid hA; clear hA
  go_enter Try.func21, Try.ntmps21
  go_wp2_with fail
  refine (heldIntS_yes A n c m _ hm h0 h1 (HA.out.below (allocB (Below.refl _ _) _))).mono ?_
  rintro e w1 ⟨rfl, rfl⟩
  have h3 : ¬ (m + (n : Int) < 0) := by omega
  go_wp2_with fail
  go_ret
  exact ⟨rfl, allocB (Below.refl _ _) _⟩
end Go.Proofs.Ytbicpnbobfhmbaa
