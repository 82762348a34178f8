/- Contracts of the laws' small functions on frames: sameFrame. No statement is proved here. -/
import Derived.Test.YtddiloillgbneaaDoorLawI
import Derived.Test.YtddiloillgbneaaDoorFrmQ
namespace Go.Proofs.YtddiloillgbneaaDoor
open Go.RowKit
set_option maxHeartbeats 400000 in
theorem sameFr (a : Int) (A B : Option Addr) (n c d : Nat) (b : List Int) (w : World) (hn : b.length = n) (hm : n ≤ 1048576) (hA : Rd w A (ints b)) (hB : Rd w B (ints b)) :
    Calls Tryd.prog 16 #[.agg #[.int .i64 a, .slice A n c], .agg #[.int .i64 a, .slice B n d]] w fun e w' => e = .returned (.bool true) ∧ Below w.heap.size w w' := by
  have HA := Lib.hid hA; clear hA
  have HB := Lib.hid hB; clear hB
  have HN := Lib.hid hn; clear hn
  have hne : (a == a) = true := by simp
  go_enter Tryd.func16, Tryd.ntmps16
  go_wp2_with fail
  refine (sameInts_same A B n c d b _ HN.out hm (HA.out.below (allocB (allocB (Below.refl _ _) _) _)) (HB.out.below (allocB (allocB (Below.refl _ _) _) _))).mono ?_
  rintro e w1 ⟨rfl, q, rfl⟩
  go_wp2_with fail
  go_ret
  exact ⟨rfl, drewNB (allocB (allocB (Below.refl _ _) _) _) _⟩
end Go.Proofs.YtddiloillgbneaaDoor
