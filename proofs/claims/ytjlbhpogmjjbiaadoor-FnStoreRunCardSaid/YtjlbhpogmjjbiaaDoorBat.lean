/- Contracts of BatteryValid, of the loads' test and of StoreRun, of the reference and of the program. No statement is proved here. -/
import Derived.Test.YtjlbhpogmjjbiaaDoorBatL
import Derived.Test.YtjlbhpogmjjbiaaDoorAll
import Derived.Test.YtjlbhpogmjjbiaaDoorAft
namespace Go.Proofs.YtjlbhpogmjjbiaaDoor
open Go.RowKit

theorem cell_keep {w w' : World} {a : Addr} {v : Value} (h : w.cell? a = some v) (hb : Below w.heap.size w w') : w'.cell? a = some v :=
  (hb.cell (World.block_lt_of_cell? w _ h)).trans h

set_option maxHeartbeats 1000000 in
theorem specBV (s r l : Int) (w : World) : Calls Tryd.prog 10 #[.agg #[.int .i64 s, .int .i64 r, .int .i64 l]] w fun e w' => e = .returned (.bool (batB s r l)) ∧ Below w.heap.size w w' := by
  unfold batB
  cases h0 : inB s 0 999 with
  | false =>
    go_enter Tryd.func10, Tryd.ntmps10
    go_wp2_with (go_at_call 29; refine (l1In_any _ _ _ _).mono ?_; rintro e w' ⟨rfl, rfl⟩)
    go_ret
    exact ⟨rfl, allocB (Below.refl _ _) _⟩
  | true =>
    cases h1 : inB r 0 999 with
    | false =>
      go_enter Tryd.func10, Tryd.ntmps10
      go_wp2_with (go_at_call 29; refine (l1In_any _ _ _ _).mono ?_; rintro e w' ⟨rfl, rfl⟩)
      go_ret
      exact ⟨rfl, allocB (Below.refl _ _) _⟩
    | true =>
      go_enter Tryd.func10, Tryd.ntmps10
      go_wp2_with (go_at_call 29; refine (l1In_any _ _ _ _).mono ?_; rintro e w' ⟨rfl, rfl⟩)
      go_ret
      exact ⟨ret_bool (by simp), allocB (Below.refl _ _) _⟩
set_option maxHeartbeats 1000000 in
theorem implBV (s r l : Int) (w : World) : Calls Tryd.prog 9 #[.agg #[.int .i64 s, .int .i64 r, .int .i64 l]] w fun e w' => e = .returned (.bool (batB s r l)) ∧ Below w.heap.size w w' := by
  unfold batB
  cases h0 : inB s 0 999 with
  | false =>
    go_enter Tryd.func9, Tryd.ntmps9
    go_wp2_with (go_at_call 28; refine (pv_any _ _).mono ?_; rintro e w' ⟨rfl, rfl⟩)
    go_ret
    exact ⟨rfl, allocB (Below.refl _ _) _⟩
  | true =>
    cases h1 : inB r 0 999 with
    | false =>
      go_enter Tryd.func9, Tryd.ntmps9
      go_wp2_with (go_at_call 28; refine (pv_any _ _).mono ?_; rintro e w' ⟨rfl, rfl⟩)
      go_ret
      exact ⟨rfl, allocB (Below.refl _ _) _⟩
    | true =>
      by_cases h2 : 0 ≤ l
      · have e : inB l 0 s = decide (l ≤ s) := by simp [inB, h2]
        rw [e]; clear e
        go_enter Tryd.func9, Tryd.ntmps9
        go_wp2_with (go_at_call 28; refine (pv_any _ _).mono ?_; rintro e w' ⟨rfl, rfl⟩)
        go_ret
        exact ⟨ret_bool (by simp), allocB (Below.refl _ _) _⟩
      · have e : inB l 0 s = false := by simp [inB, h2]
        rw [e]; clear e
        go_enter Tryd.func9, Tryd.ntmps9
        go_wp2_with (go_at_call 28; refine (pv_any _ _).mono ?_; rintro e w' ⟨rfl, rfl⟩)
        go_ret
        exact ⟨rfl, allocB (Below.refl _ _) _⟩

set_option maxHeartbeats 400000 in
theorem specLd (A : Option Addr) (n c : Nat) (xs : List Int) (w : World) (hn : xs.length = n) (hm : n ≤ 1048576) (hA : Rd w A (ints xs)) :
    Calls Tryd.prog 37 #[.slice A n c] w fun e w' => e = .returned (.bool (loadsB xs)) ∧ w = w' := by
  have HA := Lib.hid hA; clear hA
  have HN := Lib.hid hn; clear hn
  go_enter Tryd.func37, Tryd.ntmps37
  go_wp2_with fail
  go_loop [3] (fun i => ∃ k : Nat, k ≤ n ∧ i = .int .i64 k ∧ Hid ((xs.take k).all (fun x => inB x 0 999) = true)) (fun i => n - (intOf i).toNat)
  case atStart => exact ⟨0, by omega, rfl, by simp [Hid]⟩
  case round =>
    obtain ⟨k, hk, rfl, hp⟩ := hrel
    by_cases hlt : k < n
    · obtain ⟨b, o, rfl, _, hck⟩ := HA.out.int (k := k) (by have := HN.out; omega)
      generalize hx : xs.getD k 0 = x at *
      have HX := Lib.hid hx; clear hx
      cases hb : inB x 0 999 with
      | true =>
        go_wp2_with (go_at_call 29; refine (l1In_any _ _ _ _).mono ?_; rintro e w' ⟨rfl, rfl⟩)
        go_round
        case rel => exact ⟨k + 1, by omega, by go_num, by rw [Hid, all_take_succ _ _ 0 _ (by have := HN.out; omega), hp.out, HX.out, hb]; rfl⟩
        case measure => simp [intOf]; omega
      | false =>
        go_wp2_with (go_at_call 29; refine (l1In_any _ _ _ _).mono ?_; rintro e w' ⟨rfl, rfl⟩)
        go_ret
        refine ⟨ret_bool ?_, rfl⟩
        rw [loadsB, all_false _ xs 0 k (by have := HN.out; omega) (by rw [HX.out]; exact hb)]; rfl
    · go_wp2_with fail
      go_ret
      refine ⟨ret_bool ?_, rfl⟩
      have hq := HN.out
      rw [loadsB, ← all_take_all _ xs k (by omega), hp.out, hq, Bool.true_and]
      exact decide_eq_decide.2 (by omega)
set_option maxHeartbeats 400000 in
theorem implLd (A : Option Addr) (n c : Nat) (xs : List Int) (w : World) (hn : xs.length = n) (hm : n ≤ 1048576) (hA : Rd w A (ints xs)) :
    Calls Tryd.prog 36 #[.slice A n c] w fun e w' => e = .returned (.bool (loadsB xs)) ∧ w = w' := by
  have HA := Lib.hid hA; clear hA
  have HN := Lib.hid hn; clear hn
  by_cases h12 : n ≤ 12
  · go_enter Tryd.func36, Tryd.ntmps36
    go_wp2_with fail
    go_loop [10] (fun i => ∃ k : Nat, k ≤ n ∧ i = .int .i64 k ∧ Hid ((xs.take k).all (fun x => inB x 0 999) = true)) (fun i => n - (intOf i).toNat)
    case atStart => exact ⟨0, by omega, rfl, by simp [Hid]⟩
    case round =>
      obtain ⟨k, hk, rfl, hp⟩ := hrel
      by_cases hlt : k < n
      · obtain ⟨b, o, rfl, _, hck⟩ := HA.out.int (k := k) (by have := HN.out; omega)
        generalize hx : xs.getD k 0 = x at *
        have HX := Lib.hid hx; clear hx
        cases hb : inB x 0 999 with
        | true =>
          go_wp2_with (go_at_call 28; refine (pv_any _ _).mono ?_; rintro e w' ⟨rfl, rfl⟩)
          go_round
          case rel => exact ⟨k + 1, by omega, by go_num, by rw [Hid, all_take_succ _ _ 0 _ (by have := HN.out; omega), hp.out, HX.out, hb]; rfl⟩
          case measure => simp [intOf]; omega
        | false =>
          go_wp2_with (go_at_call 28; refine (pv_any _ _).mono ?_; rintro e w' ⟨rfl, rfl⟩)
          go_ret
          refine ⟨ret_bool ?_, rfl⟩
          rw [loadsB, all_false _ xs 0 k (by have := HN.out; omega) (by rw [HX.out]; exact hb)]; rfl
      · go_wp2_with fail
        go_ret
        refine ⟨ret_bool ?_, rfl⟩
        have hq := HN.out
        rw [loadsB, ← all_take_all _ xs k (by omega), hp.out, hq]; simp [h12]
  · go_enter Tryd.func36, Tryd.ntmps36
    go_wp2_with fail
    go_ret
    refine ⟨ret_bool ?_, rfl⟩
    have hq := HN.out
    rw [loadsB, hq]; simp [h12]
end Go.Proofs.YtjlbhpogmjjbiaaDoor
