/- The walk of FnExactAlarmStep: it returns true, and writes nothing that was there. -/
import Derived.Test.YtodkccjfhpeoaaaDoorAlS
namespace Go.Proofs.YtodkccjfhpeoaaaDoor.exAS
open Go.RowKit Go.Proofs.YtodkccjfhpeoaaaDoor

theorem walk (w : World) (hst : ASt w) (a0 : Int) (_w0 : (Lit.int .i64 a0).wf = true) (a1 : Int) (_w1 : (Lit.int .i64 a1).wf = true) :
    Calls Tryd.prog 3 #[.int .i64 a0, .int .i64 a1] w fun e w' => e = .returned (.bool true) ∧ Below w.heap.size w w' := by
  have HS := Lib.hid hst; clear hst
  go_enter Tryd.func3, Tryd.ntmps3
  go_wp2_with fail
  refine (specAS _ _ _).mono ?_
  rintro e w' ⟨rfl, rfl⟩
  go_wp2_with fail
  refine (implAS _ _ _ HS.out).mono ?_
  rintro e w' ⟨rfl, rfl⟩
  generalize alStep a0 a1 = s at *
  have hne : (s != s) = false := by simp
  go_wp2_with fail
  go_ret
  exact ⟨rfl, Below.refl _ _⟩
end Go.Proofs.YtodkccjfhpeoaaaDoor.exAS
