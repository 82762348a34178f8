/- Contract of sameReports. No statement is proved here. -/
import Derived.Test.YtanogghchmjkgaaDoorDrN
import Derived.Test.YtanogghchmjkgaaDoorLawI
namespace Go.Proofs.YtanogghchmjkgaaDoor
open Go.RowKit
set_option maxHeartbeats 400000 in
/-- two slices that read alike are the same -/
theorem sameReports_same (A B : Option Addr) (n c d : Nat) (l : List Report) (w : World) (hn : l.length = n) (hm : n ≤ 1048576) (hA : Rd w A (flatReport l)) (hB : Rd w B (flatReport l)) :
    Calls Tryd.prog 15 #[.slice A n c, .slice B n d] w fun e w' => e = .returned (.bool true) ∧ ∃ q, w' = w.drewN q := by
  have HA := Lib.hid hA; clear hA
  have HB := Lib.hid hB; clear hB
  have HN := Lib.hid hn; clear hn
  have hne : ((n : Int) != (n : Int)) = false := by simp
  go_enter Tryd.func15, Tryd.ntmps15
  go_wp2_with fail
  go_loopw [5] (fun i wr => ∃ k : Nat, k ≤ n ∧ i = .int .i64 k ∧ ∃ q, wr = w.drewN q) (fun i _ => n - (intOf i).toNat)
  case atStart => exact ⟨0, by omega, rfl, 0, rfl⟩
  case round =>
    obtain ⟨k, hk, rfl, q, rfl⟩ := hrel
    by_cases hlt : k < n
    · obtain ⟨b, o, rfl, _, hc1, hc2⟩ := HA.out.atReport (k := k) (by have := HN.out; omega)
      obtain ⟨b2, o2, rfl, _, hd1, hd2⟩ := HB.out.atReport (k := k) (by have := HN.out; omega)
      generalize l.getD k Report.zero = r at *
      obtain ⟨x, y⟩ := r
      have hx : (x == x) = true := by simp
      have hy : (y == y) = true := by simp
      go_wp2_with fail
      go_quiet (fail)
      go_wp2_with fail
      go_roundw
      case rel => exact ⟨k + 1, by omega, by go_num, _, rfl⟩
      case measure => simp [intOf]; omega
    · go_wp2_with fail
      go_ret
      exact ⟨rfl, q, rfl⟩
end Go.Proofs.YtanogghchmjkgaaDoor
