/- Contracts of AlarmRun, of the reference and of the program. No statement is proved here. -/
import Derived.Test.YtodkccjfhpeoaaaDoorAlS
namespace Go.Proofs.YtodkccjfhpeoaaaDoor
open Go.RowKit

def alTo (s : Int) (es : List Int) (k : Nat) : Int := (es.take k).foldl alStep s
def alRun (s : Int) (es : List Int) : Int := if inB s 0 3 then alTo s es es.length else -1
theorem alTo_succ (s : Int) (es : List Int) (k : Nat) (h : k < es.length) : alTo s es (k + 1) = alStep (alTo s es k) (es.getD k 0) := by
  unfold alTo
  rw [List.take_succ_eq_append_getElem h, List.foldl_append]
  simp [h]
theorem alStep_neg (e : Int) : alStep (-1) e = -1 := alStep_no1 rfl
theorem foldl_neg (es : List Int) : es.foldl alStep (-1) = -1 := by
  induction es with
  | nil => rfl
  | cons e es ih => rw [List.foldl_cons, alStep_neg]; exact ih
theorem alTo_neg (s : Int) (es : List Int) (k : Nat) (h : alTo s es k = -1) : alTo s es es.length = -1 := by
  unfold alTo at *
  rw [List.take_length, ← List.take_append_drop k es, List.foldl_append, h]
  exact foldl_neg _
theorem stT_bounds (k : Nat) : 0 ≤ stT.getD k 0 ∧ stT.getD k 0 ≤ 3 := by
  rcases Nat.lt_or_ge k 12 with h | h
  · have : ∀ k, k < 12 → 0 ≤ stT.getD k 0 ∧ stT.getD k 0 ≤ 3 := by decide
    exact this k h
  · rw [List.getD_eq_getElem?_getD, List.getElem?_eq_none (by simpa [stT] using h)]; decide
theorem alStep_cases (s e : Int) : alStep s e = -1 ∨ 0 ≤ alStep s e ∧ alStep s e ≤ 3 := by
  unfold alStep; split
  · exact .inr (stT_bounds _)
  · exact .inl rfl
theorem alTo_cases (s : Int) (es : List Int) (k : Nat) (hs : inB s 0 3 = true) : alTo s es k = -1 ∨ 0 ≤ alTo s es k ∧ alTo s es k ≤ 3 := by
  have h := (inB_iff _ _ _).1 hs
  induction k with
  | zero => exact .inr (by simpa [alTo] using h)
  | succ k ih =>
    rcases Nat.lt_or_ge k es.length with hk | hk
    · rw [alTo_succ s es k hk]; exact alStep_cases _ _
    · have e : alTo s es (k + 1) = alTo s es k := by
        unfold alTo; rw [List.take_of_length_le (by omega), List.take_of_length_le hk]
      rw [e]; exact ih

set_option maxHeartbeats 400000 in
theorem specAR (s : Int) (A : Option Addr) (n c : Nat) (es : List Int) (w : World) (hn : es.length = n) (hm : n ≤ 1048576) (hA : Rd w A (ints es)) :
    Calls Tryd.prog 10 #[.int .i64 s, .slice A n c] w fun r w' => r = .returned (.int .i64 (alRun s es)) ∧ w = w' := by
  have HA := Lib.hid hA; clear hA
  have HN := Lib.hid hn; clear hn
  cases h1 : inB s 0 3 with
  | false =>
    go_enter Tryd.func10, Tryd.ntmps10
    go_wp2_with (go_at_call 27; refine (l1In_any _ _ _ _).mono ?_; rintro e w' ⟨rfl, rfl⟩)
    go_ret
    exact ⟨ret_int (by rw [alRun, h1]; rfl), rfl⟩
  | true =>
    go_enter Tryd.func10, Tryd.ntmps10
    go_wp2_with (go_at_call 27; refine (l1In_any _ _ _ _).mono ?_; rintro e w' ⟨rfl, rfl⟩)
    go_loop [0, 5] (fun x i => ∃ k : Nat, k ≤ n ∧ i = .int .i64 k ∧ x = .int .i64 (alTo s es k)) (fun _ i => n - (intOf i).toNat)
    case atStart => exact ⟨0, by omega, rfl, rfl⟩
    case round =>
      obtain ⟨k, hk, rfl, rfl⟩ := hrel
      by_cases hlt : k < n
      · obtain ⟨b, o, rfl, _, hck⟩ := HA.out.int (k := k) (by have := HN.out; omega)
        have HS := Lib.hid (alTo_succ s es k (by have := HN.out; omega))
        generalize es.getD k 0 = x at *
        generalize alTo s es k = y at *
        go_wp2_with (go_at_call 8; refine (specAS _ _ _).mono ?_; rintro e w' ⟨rfl, rfl⟩)
        go_round
        case rel => exact ⟨k + 1, by omega, by go_num, by rw [HS.out]⟩
        case measure => simp [intOf]; omega
      · go_wp2_with fail
        go_ret
        have hkn : k = n := by omega
        subst hkn
        exact ⟨ret_int (by rw [alRun, h1, HN.out]; rfl), rfl⟩

set_option maxHeartbeats 400000 in
theorem implAR (s : Int) (A : Option Addr) (n c : Nat) (es : List Int) (w : World) (hn : es.length = n) (hm : n ≤ 1048576) (hA : Rd w A (ints es)) (hst : ASt w) :
    Calls Tryd.prog 12 #[.int .i64 s, .slice A n c] w fun r w' => r = .returned (.int .i64 (alRun s es)) ∧ w = w' := by
  have HA := Lib.hid hA; clear hA
  have HN := Lib.hid hn; clear hn
  have HST := Lib.hid hst; clear hst
  cases h1 : inB s 0 3 with
  | false =>
    rcases (inB_not _ _ _).1 h1 with h | h
    · go_enter Tryd.func12, Tryd.ntmps12
      go_wp2_with fail
      go_ret
      exact ⟨ret_int (by rw [alRun, h1]; rfl), rfl⟩
    · go_enter Tryd.func12, Tryd.ntmps12
      go_wp2_with fail
      go_ret
      exact ⟨ret_int (by rw [alRun, h1]; rfl), rfl⟩
  | true =>
    have h1' := (inB_iff _ _ _).1 h1
    have hx1 : decide (s < 0) = false := by simp; omega
    have hx2 : decide (3 < s) = false := by simp; omega
    have H1 := Lib.hid h1
    obtain ⟨ha, hb⟩ := h1'
    go_enter Tryd.func12, Tryd.ntmps12
    go_wp2_with fail
    clear hx1 hx2
    go_loop [0, 15] (fun x i => ∃ k : Nat, k ≤ n ∧ i = .int .i64 k ∧ x = .int .i64 (alTo s es k) ∧ 0 ≤ alTo s es k) (fun _ i => n - (intOf i).toNat)
    case atStart => exact ⟨0, by omega, rfl, rfl, ha⟩
    case round =>
      obtain ⟨k, hk, rfl, rfl, hpos⟩ := hrel
      by_cases hlt : k < n
      · obtain ⟨b, o, rfl, _, hck⟩ := HA.out.int (k := k) (by have := HN.out; omega)
        have HS := Lib.hid (alTo_succ s es k (by have := HN.out; omega))
        have HC := Lib.hid (alTo_cases s es (k + 1) H1.out)
        generalize es.getD k 0 = x at *
        generalize alTo s es k = y at *
        by_cases hneg : alStep y x < 0
        · go_wp2_with (go_at_call 9; refine (implAS _ _ _ HST.out).mono ?_; rintro e w' ⟨rfl, rfl⟩)
          go_ret
          have e : alTo s es (k + 1) = -1 := by have := HC.out; rw [HS.out] at this ⊢; omega
          exact ⟨ret_int (by rw [alRun, h1, if_pos rfl, alTo_neg s es (k + 1) e]), rfl⟩
        · go_wp2_with (go_at_call 9; refine (implAS _ _ _ HST.out).mono ?_; rintro e w' ⟨rfl, rfl⟩)
          go_round
          case rel => exact ⟨k + 1, by omega, by go_num, by rw [HS.out], by rw [HS.out]; omega⟩
          case measure => simp [intOf]; omega
      · go_wp2_with fail
        go_ret
        have hkn : k = n := by omega
        subst hkn
        exact ⟨ret_int (by rw [alRun, h1, HN.out]; rfl), rfl⟩
end Go.Proofs.YtodkccjfhpeoaaaDoor
