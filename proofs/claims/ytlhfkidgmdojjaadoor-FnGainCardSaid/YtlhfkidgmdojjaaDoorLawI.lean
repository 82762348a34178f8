/- Contracts of the laws' own small functions on ints: sameInts, sumOf. No statement is proved here. -/
import Derived.Test.YtlhfkidgmdojjaaDoorDrL
import Derived.Test.YtlhfkidgmdojjaaDoorLive
namespace Go.Proofs.YtlhfkidgmdojjaaDoor
open Go.RowKit
set_option maxHeartbeats 400000 in
/-- two slices that read alike are the same -/
theorem sameInts_same (A B : Option Addr) (n c d : Nat) (xs : List Int) (w : World) (hn : xs.length = n) (hm : n ≤ 1048576) (hA : Rd w A (ints xs)) (hB : Rd w B (ints xs)) :
    Calls Tryd.prog 10 #[.slice A n c, .slice B n d] w fun e w' => e = .returned (.bool true) ∧ ∃ q, w' = w.drewN q := by
  have HA := Lib.hid hA; clear hA
  have HB := Lib.hid hB; clear hB
  have HN := Lib.hid hn; clear hn
  have hne : ((n : Int) != (n : Int)) = false := by simp
  go_enter Tryd.func10, Tryd.ntmps10
  go_wp2_with fail
  go_loopw [5] (fun i wr => ∃ k : Nat, k ≤ n ∧ i = .int .i64 k ∧ ∃ q, wr = w.drewN q) (fun i _ => n - (intOf i).toNat)
  case atStart => exact ⟨0, by omega, rfl, 0, rfl⟩
  case round =>
    obtain ⟨k, hk, rfl, q, rfl⟩ := hrel
    by_cases hlt : k < n
    · obtain ⟨b, o, rfl, _, hc1⟩ := HA.out.int (k := k) (by have := HN.out; omega)
      obtain ⟨b2, o2, rfl, _, hc2⟩ := HB.out.int (k := k) (by have := HN.out; omega)
      generalize xs.getD k 0 = x at *
      have hx : (x != x) = false := by simp
      go_wp2_with fail
      go_quiet (fail)
      go_wp2_with fail
      go_roundw
      case rel => exact ⟨k + 1, by omega, by go_num, _, rfl⟩
      case measure => simp [intOf]; omega
    · go_wp2_with fail
      go_ret
      exact ⟨rfl, q, rfl⟩
theorem sum_take {xs : List Int} {k : Nat} (h : k < xs.length) : (xs.take (k + 1)).sum = (xs.take k).sum + xs.getD k 0 := by
  rw [List.take_succ_eq_append_getElem h, List.sum_append]; simp [h]
theorem sum_bound {xs : List Int} {b : Int} : ∀ k : Nat, k ≤ xs.length → (∀ j, j < xs.length → -b ≤ xs.getD j 0 ∧ xs.getD j 0 ≤ b) → -(b * k) ≤ (xs.take k).sum ∧ (xs.take k).sum ≤ b * k
  | 0, _, _ => by simp
  | k + 1, hk, h => by
    have ih := sum_bound k (by omega) h
    have h1 := h k (by omega)
    rw [sum_take (by omega)]
    have e : b * ((k + 1 : Nat) : Int) = b * k + b := by rw [Int.natCast_add, Int.mul_add]; simp
    rw [e]; omega
set_option maxHeartbeats 400000 in
theorem sumOf_any (A : Option Addr) (n c : Nat) (xs : List Int) (w : World) (hn : xs.length = n) (hm : n ≤ 1000) (hA : Rd w A (ints xs)) (hx : ∀ j, j < xs.length → -1000000 ≤ xs.getD j 0 ∧ xs.getD j 0 ≤ 1000000) :
    Calls Tryd.prog 13 #[.slice A n c] w fun e w' => e = .returned (.int .i64 xs.sum) ∧ w = w' := by
  have HA := Lib.hid hA; clear hA
  have HN := Lib.hid hn; clear hn
  have HX := Lib.hid hx; clear hx
  go_enter Tryd.func13, Tryd.ntmps13
  go_wp2_with fail
  go_loop [3, 4] (fun s i => ∃ k : Nat, k ≤ n ∧ i = .int .i64 k ∧ s = .int .i64 (xs.take k).sum) (fun _ i => n - (intOf i).toNat)
  case atStart => exact ⟨0, by omega, rfl, by simp⟩
  case round =>
    obtain ⟨k, hk, rfl, rfl⟩ := hrel
    by_cases hlt : k < n
    · obtain ⟨b, o, rfl, _, hc1⟩ := HA.out.int (k := k) (by have := HN.out; omega)
      have hb1 := sum_bound (b := 1000000) k (by have := HN.out; omega) HX.out
      have hb2 := HX.out k (by have := HN.out; omega)
      have HS := Lib.hid (sum_take (xs := xs) (k := k) (by have := HN.out; omega))
      generalize xs.getD k 0 = x at *
      generalize (xs.take k).sum = s at *
      go_wp2_with fail
      go_round
      case rel => exact ⟨k + 1, by omega, by go_num, by rw [HS.out]⟩
      case measure => simp [intOf]; omega
    · go_wp2_with fail
      go_ret
      have hkn : k = n := by omega
      have hq := HN.out
      exact ⟨ret_int (by rw [List.take_of_length_le (by omega)]), rfl⟩
theorem sumOf_eq (A : Option Addr) (n c : Nat) (xs : List Int) (S : Int) (hS : xs.sum = S) (w : World) (hn : xs.length = n) (hm : n ≤ 1000) (hA : Rd w A (ints xs)) (hx : ∀ j, j < xs.length → -1000000 ≤ xs.getD j 0 ∧ xs.getD j 0 ≤ 1000000) :
    Calls Tryd.prog 13 #[.slice A n c] w fun e w' => e = .returned (.int .i64 S) ∧ w = w' := by
  subst hS; exact sumOf_any A n c xs w hn hm hA hx
end Go.Proofs.YtlhfkidgmdojjaaDoor
