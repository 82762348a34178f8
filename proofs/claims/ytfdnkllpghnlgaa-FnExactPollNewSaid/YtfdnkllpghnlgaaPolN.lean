/- Contracts of PollNew, and marking and holding of its value. No statement is proved here. -/
import Derived.Test.YtfdnkllpghnlgaaMxPoll
namespace Go.Proofs.Ytfdnkllpghnlgaa
open Go.RowKit

theorem specPN (w : World) : Calls Try.prog 6 #[] w fun e w' => e = .returned (.agg #[.int .i64 0, .slice none 0 0, .int .i64 1, .slice none 0 0, .int .i64 (-1), .int .i64 (-1), .int .i64 (-1), .int .i64 (-1)]) ∧ Below w.heap.size w w' := by
  go_enter Try.func6, Try.ntmps6
  go_wp2
  exact bodyPost_ret (v := .agg #[.int .i64 0, .slice none 0 0, .int .i64 1, .slice none 0 0, .int .i64 (-1), .int .i64 (-1), .int .i64 (-1), .int .i64 (-1)]) (by simp [results, Try.results6, go_sem]) rfl ⟨rfl, allocB (Below.refl _ _) _⟩
theorem implPN (w : World) : Calls Try.prog 7 #[] w fun e w' => e = .returned (.agg #[.int .i64 0, .slice none 0 0, .int .i64 1, .slice none 0 0, .int .i64 (-1), .int .i64 (-1), .int .i64 (-1), .int .i64 (-1)]) ∧ Below w.heap.size w w' := by
  go_enter Try.func7, Try.ntmps7
  go_wp2
  exact bodyPost_ret (v := .agg #[.int .i64 0, .slice none 0 0, .int .i64 1, .slice none 0 0, .int .i64 (-1), .int .i64 (-1), .int .i64 (-1), .int .i64 (-1)]) (by simp [results, Try.results7, go_sem]) rfl ⟨rfl, allocB (Below.refl _ _) _⟩
theorem markNil (w : World) : Calls Try.prog 18 #[.slice none 0 0, .int .i64 1] w fun e w' => e = .returned (.int .i64 1) ∧ Turned none 0 w w' :=
  (markIntS_own 0 none 0 0 1 [] w (by omega) (by omega) (by omega) Own.nil).mono (by rintro e w' ⟨rfl, _, hT⟩; exact ⟨rfl, hT⟩)
theorem heldNil (w : World) : Calls Try.prog 19 #[.slice none 0 0, .int .i64 1] w fun e w' => e = .returned (.int .i64 1) ∧ w = w' :=
  (heldIntS_yes none 0 0 1 w (by omega) (by omega) (by omega) Rd.nil).mono (by rintro e w' ⟨rfl, hT⟩; exact ⟨rfl, hT⟩)
set_option maxHeartbeats 400000 in
theorem markPN (w : World) : Calls Try.prog 9 #[.agg #[.int .i64 0, .slice none 0 0, .int .i64 1, .slice none 0 0, .int .i64 (-1), .int .i64 (-1), .int .i64 (-1), .int .i64 (-1)], .int .i64 1] w fun e w' => e = .returned (.int .i64 1) ∧ Below w.heap.size w w' := by
  go_enter Try.func9, Try.ntmps9
  go_wp2_with fail
  refine (markNil _).mono ?_
  rintro e w1 ⟨rfl, hT⟩
  have hb1 := (allocB (Below.refl w.heap.size w) (.cells #[.int .i64 0, .slice none 0 0, .int .i64 1, .slice none 0 0, .int .i64 (-1), .int .i64 (-1), .int .i64 (-1), .int .i64 (-1)] 24)).trans (hT.below (fun a h => absurd h (by omega)))
  have hc := Lib.hid ((hT.block w.heap.size (fun a h => absurd h (by omega))).trans (heap_alloc_new w (.cells #[.int .i64 0, .slice none 0 0, .int .i64 1, .slice none 0 0, .int .i64 (-1), .int .i64 (-1), .int .i64 (-1), .int .i64 (-1)] 24)))
  have c3 := box_cell hc 3
  simp at c3
  clear hT hc
  go_wp2_with fail
  refine (markNil _).mono ?_
  rintro e w2 ⟨rfl, hT⟩
  go_wp2_with fail
  go_ret
  exact ⟨rfl, hb1.trans (hT.below (fun a h => absurd h (by omega)))⟩
set_option maxHeartbeats 400000 in
theorem heldPN (w : World) : Calls Try.prog 10 #[.agg #[.int .i64 0, .slice none 0 0, .int .i64 1, .slice none 0 0, .int .i64 (-1), .int .i64 (-1), .int .i64 (-1), .int .i64 (-1)], .int .i64 1] w fun e w' => e = .returned (.int .i64 1) ∧ Below w.heap.size w w' := by
  go_enter Try.func10, Try.ntmps10
  go_wp2_with fail
  refine (heldNil _).mono ?_
  rintro e w1 ⟨rfl, rfl⟩
  go_wp2_with fail
  refine (heldNil _).mono ?_
  rintro e w1 ⟨rfl, rfl⟩
  go_wp2_with fail
  go_ret
  exact ⟨rfl, allocB (Below.refl _ _) _⟩
end Go.Proofs.Ytfdnkllpghnlgaa
