/- Contracts of PollNew, and marking and holding of its value. No statement is proved here. -/
import Derived.Test.YthekihggedgofaaDoorMxPoll
namespace Go.Proofs.YthekihggedgofaaDoor
open Go.RowKit

theorem specPN (w : World) : Calls Tryd.prog 25 #[] w fun e w' => e = .returned (.agg #[.int .i64 0, .slice none 0 0, .int .i64 1, .slice none 0 0, .int .i64 (-1), .int .i64 (-1), .int .i64 (-1), .int .i64 (-1)]) ∧ Below w.heap.size w w' := by
  go_enter Tryd.func25, Tryd.ntmps25
  go_wp2
  exact bodyPost_ret (v := .agg #[.int .i64 0, .slice none 0 0, .int .i64 1, .slice none 0 0, .int .i64 (-1), .int .i64 (-1), .int .i64 (-1), .int .i64 (-1)]) (by simp [results, Tryd.results25, go_sem]) rfl ⟨rfl, allocB (Below.refl _ _) _⟩
theorem implPN (w : World) : Calls Tryd.prog 8 #[] w fun e w' => e = .returned (.agg #[.int .i64 0, .slice none 0 0, .int .i64 1, .slice none 0 0, .int .i64 (-1), .int .i64 (-1), .int .i64 (-1), .int .i64 (-1)]) ∧ Below w.heap.size w w' := by
  go_enter Tryd.func8, Tryd.ntmps8
  go_wp2
  exact bodyPost_ret (v := .agg #[.int .i64 0, .slice none 0 0, .int .i64 1, .slice none 0 0, .int .i64 (-1), .int .i64 (-1), .int .i64 (-1), .int .i64 (-1)]) (by simp [results, Tryd.results8, go_sem]) rfl ⟨rfl, allocB (Below.refl _ _) _⟩
end Go.Proofs.YthekihggedgofaaDoor
