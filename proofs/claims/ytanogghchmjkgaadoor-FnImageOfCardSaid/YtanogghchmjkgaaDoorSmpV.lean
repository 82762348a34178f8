/- Contracts of SamplesValid, of the reference and of the program: both return whether there are at most 20 values, each in 0..999. No statement is proved here. -/
import Derived.Test.YtanogghchmjkgaaDoorAll
namespace Go.Proofs.YtanogghchmjkgaaDoor
open Go.RowKit

def smpB (xs : List Int) : Bool := xs.all (fun x => inB x 0 999) && decide (xs.length ≤ 20)

set_option maxHeartbeats 400000 in
theorem specSV (A : Option Addr) (n c : Nat) (xs : List Int) (w : World) (hn : xs.length = n) (hm : n ≤ 1048576) (hA : Rd w A (ints xs)) :
    Calls Tryd.prog 21 #[.slice A n c] w fun e w' => e = .returned (.bool (smpB xs)) ∧ w = w' := by
  have HA := Lib.hid hA; clear hA
  have HN := Lib.hid hn; clear hn
  go_enter Tryd.func21, Tryd.ntmps21
  go_wp2_with fail
  go_loop [3] (fun i => ∃ k : Nat, k ≤ n ∧ i = .int .i64 k ∧ Hid ((xs.take k).all (fun x => inB x 0 999) = true)) (fun i => n - (intOf i).toNat)
  case atStart => exact ⟨0, by omega, rfl, by simp [Hid]⟩
  case round =>
    obtain ⟨k, hk, rfl, hp⟩ := hrel
    by_cases hlt : k < n
    · obtain ⟨b, o, rfl, _, hck⟩ := HA.out.int (k := k) (by have := HN.out; omega)
      generalize hx : xs.getD k 0 = x at *
      have HX := Lib.hid hx; clear hx
      cases hb : inB x 0 999 with
      | true =>
        go_wp2_with (go_at_call 29; refine (l1In_any _ _ _ _).mono ?_; rintro e w' ⟨rfl, rfl⟩)
        go_round
        case rel => exact ⟨k + 1, by omega, by go_num, by rw [Hid, all_take_succ _ _ 0 _ (by have := HN.out; omega), hp.out, HX.out, hb]; rfl⟩
        case measure => simp [intOf]; omega
      | false =>
        go_wp2_with (go_at_call 29; refine (l1In_any _ _ _ _).mono ?_; rintro e w' ⟨rfl, rfl⟩)
        go_ret
        refine ⟨ret_bool ?_, rfl⟩
        rw [smpB, all_false _ xs 0 k (by have := HN.out; omega) (by rw [HX.out]; exact hb)]; rfl
    · go_wp2_with fail
      go_ret
      refine ⟨ret_bool ?_, rfl⟩
      have hq := HN.out
      rw [smpB, ← all_take_all _ xs k (by omega), hp.out, hq, Bool.true_and]
      exact decide_eq_decide.2 (by omega)

set_option maxHeartbeats 400000 in
theorem implSV (A : Option Addr) (n c : Nat) (xs : List Int) (w : World) (hn : xs.length = n) (hm : n ≤ 1048576) (hA : Rd w A (ints xs)) :
    Calls Tryd.prog 20 #[.slice A n c] w fun e w' => e = .returned (.bool (smpB xs)) ∧ w = w' := by
  have HA := Lib.hid hA; clear hA
  have HN := Lib.hid hn; clear hn
  by_cases h20 : n ≤ 20
  · go_enter Tryd.func20, Tryd.ntmps20
    go_wp2_with fail
    go_loop [10] (fun i => ∃ k : Nat, k ≤ n ∧ i = .int .i64 k ∧ Hid ((xs.take k).all (fun x => inB x 0 999) = true)) (fun i => n - (intOf i).toNat)
    case atStart => exact ⟨0, by omega, rfl, by simp [Hid]⟩
    case round =>
      obtain ⟨k, hk, rfl, hp⟩ := hrel
      by_cases hlt : k < n
      · obtain ⟨b, o, rfl, _, hck⟩ := HA.out.int (k := k) (by have := HN.out; omega)
        generalize hx : xs.getD k 0 = x at *
        have HX := Lib.hid hx; clear hx
        cases hb : inB x 0 999 with
        | true =>
          go_wp2_with (go_at_call 32; refine (pv_any _ _).mono ?_; rintro e w' ⟨rfl, rfl⟩)
          go_round
          case rel => exact ⟨k + 1, by omega, by go_num, by rw [Hid, all_take_succ _ _ 0 _ (by have := HN.out; omega), hp.out, HX.out, hb]; rfl⟩
          case measure => simp [intOf]; omega
        | false =>
          go_wp2_with (go_at_call 32; refine (pv_any _ _).mono ?_; rintro e w' ⟨rfl, rfl⟩)
          go_ret
          refine ⟨ret_bool ?_, rfl⟩
          rw [smpB, all_false _ xs 0 k (by have := HN.out; omega) (by rw [HX.out]; exact hb)]; rfl
      · go_wp2_with fail
        go_ret
        refine ⟨ret_bool ?_, rfl⟩
        have hq := HN.out
        rw [smpB, ← all_take_all _ xs k (by omega), hp.out, hq]; simp [h20]
  · go_enter Tryd.func20, Tryd.ntmps20
    go_wp2_with fail
    go_ret
    refine ⟨ret_bool ?_, rfl⟩
    have hq := HN.out
    rw [smpB, hq]; simp [h20]
end Go.Proofs.YtanogghchmjkgaaDoor
