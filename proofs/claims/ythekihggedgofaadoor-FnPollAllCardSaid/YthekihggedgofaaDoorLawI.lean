/- Contracts of the laws' own small functions on ints: sameInts, sumOf. No statement is proved here. -/
import Derived.Test.YthekihggedgofaaDoorDrL
import Derived.Test.YthekihggedgofaaDoorLive
namespace Go.Proofs.YthekihggedgofaaDoor
open Go.RowKit
set_option maxHeartbeats 400000 in
/-- two slices that read alike are the same -/
theorem sameInts_same (A B : Option Addr) (n c d : Nat) (xs : List Int) (w : World) (hn : xs.length = n) (hm : n ≤ 1048576) (hA : Rd w A (ints xs)) (hB : Rd w B (ints xs)) :
    Calls Tryd.prog 12 #[.slice A n c, .slice B n d] w fun e w' => e = .returned (.bool true) ∧ ∃ q, w' = w.drewN q := by
  have HA := Lib.hid hA; clear hA
  have HB := Lib.hid hB; clear hB
  have HN := Lib.hid hn; clear hn
  have hne : ((n : Int) != (n : Int)) = false := by simp
  go_enter Tryd.func12, Tryd.ntmps12
  go_wp2_with fail
  go_loopw [5] (fun i wr => ∃ k : Nat, k ≤ n ∧ i = .int .i64 k ∧ ∃ q, wr = w.drewN q) (fun i _ => n - (intOf i).toNat)
  case atStart => exact ⟨0, by omega, rfl, 0, rfl⟩
  case round =>
    obtain ⟨k, hk, rfl, q, rfl⟩ := hrel
    by_cases hlt : k < n
    · obtain ⟨b, o, rfl, _, hc1⟩ := HA.out.int (k := k) (by have := HN.out; omega)
      obtain ⟨b2, o2, rfl, _, hc2⟩ := HB.out.int (k := k) (by have := HN.out; omega)
      generalize xs.getD k 0 = x at *
      have hx : (x != x) = false := by simp
      go_wp2_with fail
      go_quiet (fail)
      go_wp2_with fail
      go_roundw
      case rel => exact ⟨k + 1, by omega, by go_num, _, rfl⟩
      case measure => simp [intOf]; omega
    · go_wp2_with fail
      go_ret
      exact ⟨rfl, q, rfl⟩
end Go.Proofs.YthekihggedgofaaDoor
