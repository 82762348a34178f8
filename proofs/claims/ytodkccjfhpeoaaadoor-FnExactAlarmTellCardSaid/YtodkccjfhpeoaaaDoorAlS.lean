/- Contracts of AlarmStep, of the reference and of the program; the program's reads the table alarmStates. No statement is proved here. -/
import Derived.Test.YtodkccjfhpeoaaaDoorBase
namespace Go.Proofs.YtodkccjfhpeoaaaDoor
open Go.RowKit

/-- the table, row by row -/
def stT : List Int := [1, 0, 0, 1, 3, 2, 2, 0, 2, 1, 3, 0]
/-- the variable alarmStates holds the table -/
def ASt (w : World) : Prop := ∀ k, k < 12 → w.cell? ⟨0, k, none⟩ = some (.int .i64 (stT.getD k 0))
theorem ASt.below {w w' : World} (h : ASt w) (hb : Below w.heap.size w w') : ASt w' := by
  intro k hk
  have := h k hk
  refine (hb.cell (p := ⟨0, k, none⟩) ?_).trans this
  rcases Nat.lt_or_ge 0 w.heap.size with h1 | h1
  · exact h1
  · simp [World.cell?, Array.getElem?_eq_none h1] at this

def alStep (s e : Int) : Int := if inB s 0 3 && inB e 0 2 then stT.getD (s * 3 + e).toNat 0 else -1
theorem alStep_no1 {s e : Int} (h : inB s 0 3 = false) : alStep s e = -1 := by rw [alStep, h]; rfl
theorem alStep_no2 {s e : Int} (h : inB e 0 2 = false) : alStep s e = -1 := by rw [alStep, h, Bool.and_false]; rfl
theorem four {s : Int} (h : inB s 0 3 = true) : s = 0 ∨ s = 1 ∨ s = 2 ∨ s = 3 := by have := (inB_iff _ _ _).1 h; omega
theorem three {s : Int} (h : inB s 0 2 = true) : s = 0 ∨ s = 1 ∨ s = 2 := by have := (inB_iff _ _ _).1 h; omega

set_option maxHeartbeats 2000000 in
theorem specAS (s e : Int) (w : World) :
    Calls Tryd.prog 8 #[.int .i64 s, .int .i64 e] w fun r w' => r = .returned (.int .i64 (alStep s e)) ∧ w = w' := by
  cases h1 : inB s 0 3 with
  | false =>
    rw [alStep_no1 h1]
    go_enter Tryd.func8, Tryd.ntmps8
    go_wp2_with (go_at_call 27; refine (l1In_any _ _ _ _).mono ?_; rintro e w' ⟨rfl, rfl⟩)
    go_ret
    exact ⟨rfl, rfl⟩
  | true =>
    cases h2 : inB e 0 2 with
    | false =>
      rw [alStep_no2 h2]
      go_enter Tryd.func8, Tryd.ntmps8
      go_wp2_with (go_at_call 27; refine (l1In_any _ _ _ _).mono ?_; rintro e w' ⟨rfl, rfl⟩)
      go_ret
      exact ⟨rfl, rfl⟩
    | true =>
      rcases four h1 with rfl | rfl | rfl | rfl <;> rcases three h2 with rfl | rfl | rfl
      all_goals
        go_enter Tryd.func8, Tryd.ntmps8
        go_wp2_with (go_at_call 27; refine (l1In_any _ _ _ _).mono ?_; rintro e w' ⟨rfl, rfl⟩)
        go_ret
        exact ⟨rfl, rfl⟩

set_option maxHeartbeats 2000000 in
theorem implAS (s e : Int) (w : World) (hst : ASt w) :
    Calls Tryd.prog 9 #[.int .i64 s, .int .i64 e] w fun r w' => r = .returned (.int .i64 (alStep s e)) ∧ w = w' := by
  have HS := Lib.hid hst; clear hst
  cases h1 : inB s 0 3 with
  | false =>
    rw [alStep_no1 h1]
    rcases (inB_not _ _ _).1 h1 with h | h
    · go_enter Tryd.func9, Tryd.ntmps9
      go_wp2_with fail
      go_ret
      exact ⟨rfl, rfl⟩
    · go_enter Tryd.func9, Tryd.ntmps9
      go_wp2_with fail
      go_ret
      exact ⟨rfl, rfl⟩
  | true =>
    have h1' := (inB_iff _ _ _).1 h1
    cases h2 : inB e 0 2 with
    | false =>
      rw [alStep_no2 h2]
      rcases (inB_not _ _ _).1 h2 with h | h
      · go_enter Tryd.func9, Tryd.ntmps9
        go_wp2_with fail
        go_ret
        exact ⟨rfl, rfl⟩
      · go_enter Tryd.func9, Tryd.ntmps9
        go_wp2_with fail
        go_ret
        exact ⟨rfl, rfl⟩
    | true =>
      have hc : ∀ k v, k < 12 → stT.getD k 0 = v → w.cell? ⟨0, k, none⟩ = some (.int .i64 v) := fun k v hk hv => by rw [← hv]; exact HS.out k hk
      have q0 := hc 0 1 (by omega) rfl
      have q1 := hc 1 0 (by omega) rfl
      have q2 := hc 2 0 (by omega) rfl
      have q3 := hc 3 1 (by omega) rfl
      have q4 := hc 4 3 (by omega) rfl
      have q5 := hc 5 2 (by omega) rfl
      have q6 := hc 6 2 (by omega) rfl
      have q7 := hc 7 0 (by omega) rfl
      have q8 := hc 8 2 (by omega) rfl
      have q9 := hc 9 1 (by omega) rfl
      have q10 := hc 10 3 (by omega) rfl
      have q11 := hc 11 0 (by omega) rfl
      clear hc
      rcases four h1 with rfl | rfl | rfl | rfl <;> rcases three h2 with rfl | rfl | rfl
      all_goals
        clear h1' h1 h2
        go_enter Tryd.func9, Tryd.ntmps9
        go_wp2_with fail
        go_ret
        exact ⟨rfl, rfl⟩
end Go.Proofs.YtodkccjfhpeoaaaDoor
