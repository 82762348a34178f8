/- Contracts of the laws' own small functions hasInt and ascend. No statement is proved here. -/
import Derived.Test.YtdlphgknplomkaaDoorLawI
import Derived.Test.YtdlphgknplomkaaDoorFr
namespace Go.Proofs.YtdlphgknplomkaaDoor
open Go.RowKit
set_option maxHeartbeats 400000 in
theorem hasIntC (A : Option Addr) (n c : Nat) (xs : List Int) (z : Int) (rb : Bool) (w : World) (hn : xs.length = n) (hm : n ≤ 1048576) (hr : xs.any (fun y => y == z) = rb) (hA : Rd w A (ints xs)) :
    Calls Tryd.prog 20 #[.slice A n c, .int .i64 z] w fun e w' => e = .returned (.bool rb) ∧ w = w' := by
  have HA := Lib.hid hA; clear hA
  have HN := Lib.hid hn; clear hn
  have HR := Lib.hid hr; clear hr
  go_enter Tryd.func20, Tryd.ntmps20
  go_wp2_with fail
  go_loop [5] (fun i => ∃ k : Nat, k ≤ n ∧ i = .int .i64 k ∧ Hid (∀ j, j < k → (xs.getD j 0 == z) = false)) (fun i => n - (intOf i).toNat)
  case atStart => exact ⟨0, by omega, rfl, fun j hj => absurd hj (by omega)⟩
  case round =>
    obtain ⟨k, hk, rfl, hp⟩ := hrel
    by_cases hlt : k < n
    · obtain ⟨b, o, rfl, _, hc1⟩ := HA.out.int (k := k) (by have := HN.out; omega)
      have HG : Hid (xs.getD k 0 = xs.getD k 0) := rfl
      generalize hx : xs.getD k 0 = x at hc1
      have HX := Lib.hid hx; clear hx HG
      cases he : (x == z) with
      | true =>
        go_wp2_with fail
        go_ret
        refine ⟨ret_bool ?_, rfl⟩
        rw [← HR.out]
        have hkl : k < xs.length := by rw [HN.out]; exact hlt
        symm
        rw [List.any_eq_true]
        refine ⟨x, ?_, he⟩
        rw [← HX.out]
        simp [hkl]
      | false =>
        go_wp2_with fail
        go_round
        case rel =>
          refine ⟨k + 1, by omega, by go_num, fun j hj => ?_⟩
          rcases Nat.lt_or_ge j k with h | h
          · exact hp.out j h
          · have : j = k := by omega
            subst this; rw [HX.out]; exact he
        case measure => simp [intOf]; omega
    · go_wp2_with fail
      go_ret
      refine ⟨ret_bool ?_, rfl⟩
      rw [← HR.out]
      symm
      rw [List.any_eq_false]
      intro y hy
      obtain ⟨j, hj, rfl⟩ := List.getElem_of_mem hy
      have := hp.out j (by have := HN.out; omega)
      simpa [hj] using this
set_option maxHeartbeats 400000 in
theorem ascendC (A : Option Addr) (n c : Nat) (xs : List Int) (w : World) (hn : xs.length = n) (hm : n ≤ 1048576) (hr : xs.Pairwise (· < ·)) (hA : Rd w A (ints xs)) :
    Calls Tryd.prog 21 #[.slice A n c] w fun e w' => e = .returned (.bool true) ∧ ∃ q, w' = w.drewN q := by
  have HA := Lib.hid hA; clear hA
  have HN := Lib.hid hn; clear hn
  have HR := Lib.hid hr; clear hr
  go_enter Tryd.func21, Tryd.ntmps21
  go_wp2_with fail
  go_loopw [3] (fun i wr => ∃ k : Nat, 1 ≤ k ∧ k ≤ n + 1 ∧ i = .int .i64 k ∧ ∃ q, wr = w.drewN q) (fun i _ => n - (intOf i).toNat)
  case atStart => exact ⟨1, by omega, by omega, rfl, 0, rfl⟩
  case round =>
    obtain ⟨k, hk1, hk, rfl, q, rfl⟩ := hrel
    by_cases hlt : k < n
    · obtain ⟨k, rfl⟩ : ∃ k', k = k' + 1 := ⟨k - 1, by omega⟩
      obtain ⟨b, o, rfl, _, hc1⟩ := HA.out.int (k := k + 1) (by have := HN.out; omega)
      obtain ⟨b2, o2, e2, _, hc2⟩ := HA.out.int (k := k) (by have := HN.out; omega)
      cases e2
      have hxy : xs.getD k 0 < xs.getD (k + 1) 0 := by
        have h := HR.out
        rw [List.pairwise_iff_getElem] at h
        have h1 : k < xs.length := by have := HN.out; omega
        have h2 : k + 1 < xs.length := by have := HN.out; omega
        have := h k (k + 1) h1 h2 (by omega)
        simpa [h1, h2] using this
      generalize xs.getD k 0 = x at *
      generalize xs.getD (k + 1) 0 = y at *
      have hx : decide (y ≤ x) = false := by simp; omega
      have hk2 : ((k + 1 : Nat) : Int) = (k : Int) + 1 := by omega
      have hw1 : IntKind.i64.wrap (k : Int) = (k : Int) := IntWalk.i64_in _ (by omega)
      have hi1 : (k : Int) + 1 < (n : Int) := by omega
      have hi2 : (k : Int) < (n : Int) := by omega
      have hi0 : (0 : Int) ≤ (k : Int) := by omega
      go_wp2_with fail
      go_quiet (fail)
      go_wp2_with fail
      go_roundw
      case rel => exact ⟨k + 1 + 1, by omega, by omega, by go_num, _, rfl⟩
      case measure => simp [intOf]; omega
    · go_wp2_with fail
      go_ret
      exact ⟨rfl, q, rfl⟩
end Go.Proofs.YtdlphgknplomkaaDoor
