/- Contracts of FrameValid and FrameBytes, of the reference and of the program, and of the laws' small functions on frames. No statement is proved here. -/
import Derived.Test.YtddiloillgbneaaDoorFrmL
import Derived.Test.YtddiloillgbneaaDoorRow
import Derived.Test.YtddiloillgbneaaDoorApp
import Derived.Test.YtddiloillgbneaaDoorCmp
namespace Go.Proofs.YtddiloillgbneaaDoor
open Go.RowKit

theorem cells2 {w : World} {g : Nat} {a b : Value} {T : TypeId} (h : w.heap[g]? = some (.cells #[a, b] T (0, 0))) : w.cell? ⟨g, 0, none⟩ = some a ∧ w.cell? ⟨g, 1, none⟩ = some b :=
  ⟨cell_of_row _ _ 0 _ _ (0, 0) h, cell_of_row _ _ 1 _ _ (0, 0) h⟩

theorem bv_any (n : Int) (w : World) :
    Calls Tryd.prog 25 #[.int .i64 n] w fun e w' => e = .returned (.bool (inB n 0 255)) ∧ w = w' := by
  by_cases h1 : 0 ≤ n
  · by_cases h2 : n ≤ 255
    · have e : inB n 0 255 = true := by simp [inB, h1, h2]
      rw [e]; clear e
      go_enter Tryd.func25, Tryd.ntmps25
      go_wp2
      go_ret
      exact ⟨rfl, rfl⟩
    · have e : inB n 0 255 = false := by simp [inB, h1, h2]
      rw [e]; clear e
      go_enter Tryd.func25, Tryd.ntmps25
      go_wp2
      go_ret
      exact ⟨rfl, rfl⟩
  · have e : inB n 0 255 = false := by simp [inB, h1]
    rw [e]; clear e
    go_enter Tryd.func25, Tryd.ntmps25
    go_wp2
    go_ret
    exact ⟨rfl, rfl⟩

set_option maxHeartbeats 400000 in
theorem specFV (a : Int) (A : Option Addr) (n c : Nat) (b : List Int) (w : World) (hn : b.length = n) (hm : n ≤ 1048576) (hA : Rd w A (ints b)) :
    Calls Tryd.prog 9 #[.agg #[.int .i64 a, .slice A n c]] w fun e w' => e = .returned (.bool (frmB a b)) ∧ Below w.heap.size w w' := by
  have HA := Lib.hid (hA.below (allocB (Below.refl _ _) (.cells #[.int .i64 a, .slice A n c] 25))); clear hA
  have HN := Lib.hid hn; clear hn
  go_enter Tryd.func9, Tryd.ntmps9
  go_wp2_with fail
  go_loop [3] (fun i => ∃ k : Nat, k ≤ n ∧ i = .int .i64 k ∧ Hid ((b.take k).all (fun x => inB x 0 255) = true)) (fun i => n - (intOf i).toNat)
  case atStart => exact ⟨0, by omega, rfl, by simp [Hid]⟩
  case round =>
    obtain ⟨k, hk, rfl, hp⟩ := hrel
    by_cases hlt : k < n
    · obtain ⟨g, o, rfl, _, hck⟩ := HA.out.int (k := k) (by have := HN.out; omega)
      generalize hx : b.getD k 0 = x at *
      have HX := Lib.hid hx; clear hx
      cases hb : inB x 0 255 with
      | true =>
        go_wp2_with (go_at_call 26; refine (l1In_any _ _ _ _).mono ?_; rintro e w' ⟨rfl, rfl⟩)
        go_round
        case rel => exact ⟨k + 1, by omega, by go_num, by rw [Hid, all_take_succ _ _ 0 _ (by have := HN.out; omega), hp.out, HX.out, hb]; rfl⟩
        case measure => simp [intOf]; omega
      | false =>
        go_wp2_with (go_at_call 26; refine (l1In_any _ _ _ _).mono ?_; rintro e w' ⟨rfl, rfl⟩)
        go_ret
        refine ⟨ret_bool ?_, allocB (Below.refl _ _) _⟩
        rw [frmB, byteL, all_false _ _ 0 k (by have := HN.out; omega) (by rw [HX.out]; exact hb)]; simp
    · have hall : byteL b = true := by
        have h := hp.out
        rwa [all_take_all _ _ _ (by have := HN.out; omega)] at h
      have HL := Lib.hid hall; clear hall hp
      have HF := Lib.hid (show frmB a b = (inB a 0 255 && decide (n ≤ 12)) by rw [frmB, HL.out, HN.out]; simp)
      have hkn : k = n := by omega
      subst hkn
      cases hb : inB a 0 255 with
      | true =>
        go_wp2_with (go_at_call 26; refine (l1In_any _ _ _ _).mono ?_; rintro e w' ⟨rfl, rfl⟩)
        go_ret
        exact ⟨ret_bool (by rw [HF.out, hb]; simp; omega), allocB (Below.refl _ _) _⟩
      | false =>
        go_wp2_with (go_at_call 26; refine (l1In_any _ _ _ _).mono ?_; rintro e w' ⟨rfl, rfl⟩)
        go_ret
        exact ⟨ret_bool (by rw [HF.out, hb]; rfl), allocB (Below.refl _ _) _⟩
set_option maxHeartbeats 400000 in
theorem implFV (a : Int) (A : Option Addr) (n c : Nat) (b : List Int) (w : World) (hn : b.length = n) (hm : n ≤ 1048576) (hA : Rd w A (ints b)) :
    Calls Tryd.prog 8 #[.agg #[.int .i64 a, .slice A n c]] w fun e w' => e = .returned (.bool (frmB a b)) ∧ Below w.heap.size w w' := by
  have HA := Lib.hid (hA.below (allocB (Below.refl _ _) (.cells #[.int .i64 a, .slice A n c] 25))); clear hA
  have HN := Lib.hid hn; clear hn
  cases hi : inB a 0 255 with
  | false =>
    have e : frmB a b = false := by rw [frmB, hi]; rfl
    rw [e]; clear e
    go_enter Tryd.func8, Tryd.ntmps8
    go_wp2_with (go_at_call 25; refine (bv_any _ _).mono ?_; rintro e w' ⟨rfl, rfl⟩)
    go_ret
    exact ⟨rfl, allocB (Below.refl _ _) _⟩
  | true =>
    by_cases h12 : n ≤ 12
    · go_enter Tryd.func8, Tryd.ntmps8
      go_wp2_with (go_at_call 25; refine (bv_any _ _).mono ?_; rintro e w' ⟨rfl, rfl⟩)
      go_loop [18] (fun i => ∃ k : Nat, k ≤ n ∧ i = .int .i64 k ∧ Hid ((b.take k).all (fun x => inB x 0 255) = true)) (fun i => n - (intOf i).toNat)
      case atStart => exact ⟨0, by omega, rfl, by simp [Hid]⟩
      case round =>
        obtain ⟨k, hk, rfl, hp⟩ := hrel
        by_cases hlt : k < n
        · obtain ⟨g, o, rfl, _, hck⟩ := HA.out.int (k := k) (by have := HN.out; omega)
          generalize hx : b.getD k 0 = x at *
          have HX := Lib.hid hx; clear hx
          cases hb : inB x 0 255 with
          | true =>
            go_wp2_with (go_at_call 25; refine (bv_any _ _).mono ?_; rintro e w' ⟨rfl, rfl⟩)
            go_round
            case rel => exact ⟨k + 1, by omega, by go_num, by rw [Hid, all_take_succ _ _ 0 _ (by have := HN.out; omega), hp.out, HX.out, hb]; rfl⟩
            case measure => simp [intOf]; omega
          | false =>
            go_wp2_with (go_at_call 25; refine (bv_any _ _).mono ?_; rintro e w' ⟨rfl, rfl⟩)
            go_ret
            refine ⟨ret_bool ?_, allocB (Below.refl _ _) _⟩
            rw [frmB, byteL, all_false _ _ 0 k (by have := HN.out; omega) (by rw [HX.out]; exact hb)]; simp
        · have hall : byteL b = true := by
            have h := hp.out
            rwa [all_take_all _ _ _ (by have := HN.out; omega)] at h
          have e : frmB a b = true := by rw [frmB, hi, hall, HN.out, decide_eq_true h12]; rfl
          have HE := Lib.hid e; clear e hall hp
          go_wp2_with fail
          go_ret
          exact ⟨ret_bool HE.out.symm, allocB (Below.refl _ _) _⟩
    · have e : frmB a b = false := by
        rw [frmB, HN.out, decide_eq_false h12]; simp
      rw [e]; clear e
      go_enter Tryd.func8, Tryd.ntmps8
      go_wp2_with (go_at_call 25; refine (bv_any _ _).mono ?_; rintro e w' ⟨rfl, rfl⟩)
      go_ret
      exact ⟨rfl, allocB (Below.refl _ _) _⟩
end Go.Proofs.YtddiloillgbneaaDoor
