/- The contract of the laws' sameEntries. No statement is proved here. -/
import Derived.Test.YtdlphgknplomkaaDoorLogS
import Derived.Test.YtdlphgknplomkaaDoorLawI
import Derived.BigQuiet
namespace Go.Proofs.YtdlphgknplomkaaDoor
open Go.RowKit
set_option maxHeartbeats 800000 in
theorem sameE (A B : Option Addr) (n c d : Nat) (l : List Entry) (w : World) (hn : l.length = n) (hm : n ≤ 1048576) (hA : Rd w A (flatEntry l)) (hB : Rd w B (flatEntry l)) :
    Calls Tryd.prog 12 #[.slice A n c, .slice B n d] w fun e w' => e = .returned (.bool true) ∧ ∃ q, w' = w.drewN q := by
  have HA := Lib.hid hA; clear hA
  have HB := Lib.hid hB; clear hB
  have HN := Lib.hid hn; clear hn
  have hne : ((n : Int) != (n : Int)) = false := by simp
  go_enter Tryd.func12, Tryd.ntmps12
  go_wp2_with fail
  go_loopw [5] (fun i wr => ∃ k : Nat, k ≤ n ∧ i = .int .i64 k ∧ ∃ q, wr = w.drewN q) (fun i _ => n - (intOf i).toNat)
  case atStart => exact ⟨0, by omega, rfl, 0, rfl⟩
  case round =>
    obtain ⟨k, hk, rfl, q, rfl⟩ := hrel
    by_cases hlt : k < n
    · obtain ⟨b, o, rfl, _, hc0, hc1, hc2, hc3⟩ := HA.out.atEntry (k := k) (by have := HN.out; omega)
      obtain ⟨b2, o2, rfl, _, he0, he1, he2, he3⟩ := HB.out.atEntry (k := k) (by have := HN.out; omega)
      generalize l.getD k Entry.zero = r at *
      obtain ⟨r0, r1, r2, r3⟩ := r
      dsimp only at hc0 hc1 hc2 hc3 he0 he1 he2 he3
      have hki : (k : Int) < (n : Int) := by omega
      go_wp2_with fail
      go_quiet (fail)
      go_wp2_with fail
      go_roundw
      case rel => exact ⟨k + 1, by omega, by go_num, _, rfl⟩
      case measure => simp [intOf]; omega
    · go_wp2_with fail
      go_ret
      exact ⟨rfl, q, rfl⟩
end Go.Proofs.YtdlphgknplomkaaDoor
