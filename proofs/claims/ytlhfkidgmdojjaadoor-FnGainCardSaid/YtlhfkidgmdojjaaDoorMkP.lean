/- The contract of the reference's l24Pick. No statement is proved here. -/
import Derived.Test.YtlhfkidgmdojjaaDoorMkt
import Derived.Test.YtlhfkidgmdojjaaDoorRow
import Derived.Test.YtlhfkidgmdojjaaDoorAll
import Derived.BigQuiet
namespace Go.Proofs.YtlhfkidgmdojjaaDoor
open Go.RowKit

theorem pickTo_form (l : List Order) (d : List Int) (b : Bool) (k : Nat) : pickTo l d b k = -1 ∨ ∃ j : Nat, pickTo l d b k = j ∧ j < k := by
  rcases pickTo_spec l d b k with ⟨e, _⟩ | ⟨j, e, h, _⟩
  · exact .inl e
  · exact .inr ⟨j, e, h⟩
theorem pickTo_keep {l : List Order} {d : List Int} {b : Bool} {k : Nat} (h : oLeft l d k = false) : pickTo l d b (k + 1) = pickTo l d b k := by rw [pickTo, h]; rfl
theorem pickTo_new {l : List Order} {d : List Int} {b : Bool} {k : Nat} (h : oLeft l d k = true) (hn : pickTo l d b k = -1) : pickTo l d b (k + 1) = k := by rw [pickTo, h, hn]; rfl
theorem pickTo_better {l : List Order} {d : List Int} {b : Bool} {k j : Nat} (h : oLeft l d k = true) (hn : pickTo l d b k = j) (hb : oBetter l b k j = true) : pickTo l d b (k + 1) = k := by
  rw [pickTo, h, hn, Int.toNat_natCast, hb]; simp
theorem pickTo_worse {l : List Order} {d : List Int} {b : Bool} {k j : Nat} (hn : pickTo l d b k = j) (hb : oBetter l b k j = false) : pickTo l d b (k + 1) = j := by
  rw [pickTo, hn, Int.toNat_natCast, hb]; simp; omega

set_option maxHeartbeats 1000000 in
theorem pickA (A B : Option Addr) (n c c2 : Nat) (l : List Order) (d : List Int) (w : World) (hn : l.length = n) (hn2 : d.length = n) (hm : n ≤ 1048576) (hA : Rd w A (flatOrder l)) (hB : Rd w B (ints d)) :
    Calls Tryd.prog 27 #[.slice A n c, .slice B n c2, .bool false] w fun e w' => e = .returned (.int .i64 (pick l d false)) ∧ ∃ q, w' = w.drewN q := by
  have HA := Lib.hid hA; clear hA
  have HB := Lib.hid hB; clear hB
  have HN := Lib.hid hn; clear hn
  have HN2 := Lib.hid hn2; clear hn2
  go_enter Tryd.func27, Tryd.ntmps27
  go_wp2_with fail
  go_loopw [7, 8] (fun v i wr => ∃ k : Nat, k ≤ n ∧ i = .int .i64 k ∧ v = .int .i64 (pickTo l d false k) ∧ ∃ q, wr = w.drewN q) (fun _ i _ => n - (intOf i).toNat)
  case atStart => exact ⟨0, by omega, rfl, rfl, 0, rfl⟩
  case round =>
    obtain ⟨k, hk, rfl, rfl, q, rfl⟩ := hrel
    by_cases hlt : k < n
    case neg =>
      have hkn : k = n := by omega
      subst hkn
      go_wp2_with fail
      go_ret
      exact ⟨ret_int (by rw [pick, HN.out]), q, rfl⟩
    obtain ⟨b, o, rfl, _, hc0, hc1⟩ := HA.out.atOrder (k := k) (by have := HN.out; omega)
    obtain ⟨b2, o2, rfl, _, hd0⟩ := HB.out.int (k := k) (by have := HN2.out; omega)
    have HOL : Hid (oLeft l d k = decide (d.getD k 0 < (l.getD k Order.zero).fMany)) := rfl
    have hkn : (k : Int) < (n : Int) := by omega
    generalize hP : (l.getD k Order.zero).fPrice = P at *
    have HP := Lib.hid hP; clear hP
    generalize (l.getD k Order.zero).fMany = M at *
    generalize d.getD k 0 = T at *
    by_cases hTM : T < M
    case neg =>
      have hd : decide (T < M) = false := decide_eq_false hTM
      have HE := Lib.hid (pickTo_keep (b := false) (show oLeft l d k = false by rw [HOL.out]; exact hd))
      generalize pickTo l d false k = v at *
      go_wp2_with fail
      go_quiet (fail)
      go_wp2_with fail
      go_roundw
      case rel => exact ⟨k + 1, by omega, by go_num, by rw [HE.out], _, rfl⟩
      case measure => simp [intOf]; omega
    have HT : Hid (oLeft l d k = true) := by rw [Hid, HOL.out]; exact decide_eq_true hTM
    rcases pickTo_form l d false k with hv | ⟨j, hv, hj⟩
    · have HE := Lib.hid (pickTo_new HT.out hv)
      rw [hv]
      clear hv
      go_wp2_with fail
      go_quiet (fail)
      go_wp2_with fail
      go_roundw
      case rel => exact ⟨k + 1, by omega, by go_num, by rw [HE.out], _, rfl⟩
      case measure => simp [intOf]; omega
    · obtain ⟨_, _, e2, _, hj0, _⟩ := HA.out.atOrder (k := j) (by have := HN.out; omega)
      cases e2
      have hj1 : decide ((j : Int) < 0) = false := decide_eq_false (by omega)
      have hj2 : (0 : Int) ≤ (j : Int) := by omega
      have hj3 : (j : Int) < (n : Int) := by omega
      have HV := Lib.hid hv
      rw [hv]; clear hv
      generalize hQ : (l.getD j Order.zero).fPrice = Q at *
      have HQ := Lib.hid hQ; clear hQ
      by_cases hPQ : P < Q
      · have HE := Lib.hid (pickTo_better HT.out HV.out (by rw [oBetter]; simp only [oAt, HP.out, HQ.out]; simpa using hPQ))
        go_wp2_with fail
        go_quiet (fail)
        go_wp2_with fail
        go_roundw
        case rel => exact ⟨k + 1, by omega, by go_num, by rw [HE.out], _, rfl⟩
        case measure => simp [intOf]; omega
      · have hPQ' : decide (P < Q) = false := decide_eq_false hPQ
        have HE := Lib.hid (pickTo_worse HV.out (by rw [oBetter]; simp only [oAt, HP.out, HQ.out]; simpa using hPQ))
        go_wp2_with fail
        go_quiet (fail)
        go_wp2_with fail
        go_roundw
        case rel => exact ⟨k + 1, by omega, by go_num, by rw [HE.out], _, rfl⟩
        case measure => simp [intOf]; omega

set_option maxHeartbeats 1000000 in
theorem pickB (A B : Option Addr) (n c c2 : Nat) (l : List Order) (d : List Int) (w : World) (hn : l.length = n) (hn2 : d.length = n) (hm : n ≤ 1048576) (hA : Rd w A (flatOrder l)) (hB : Rd w B (ints d)) :
    Calls Tryd.prog 27 #[.slice A n c, .slice B n c2, .bool true] w fun e w' => e = .returned (.int .i64 (pick l d true)) ∧ ∃ q, w' = w.drewN q := by
  have HA := Lib.hid hA; clear hA
  have HB := Lib.hid hB; clear hB
  have HN := Lib.hid hn; clear hn
  have HN2 := Lib.hid hn2; clear hn2
  go_enter Tryd.func27, Tryd.ntmps27
  go_wp2_with fail
  go_loopw [7, 8] (fun v i wr => ∃ k : Nat, k ≤ n ∧ i = .int .i64 k ∧ v = .int .i64 (pickTo l d true k) ∧ ∃ q, wr = w.drewN q) (fun _ i _ => n - (intOf i).toNat)
  case atStart => exact ⟨0, by omega, rfl, rfl, 0, rfl⟩
  case round =>
    obtain ⟨k, hk, rfl, rfl, q, rfl⟩ := hrel
    by_cases hlt : k < n
    case neg =>
      have hkn : k = n := by omega
      subst hkn
      go_wp2_with fail
      go_ret
      exact ⟨ret_int (by rw [pick, HN.out]), q, rfl⟩
    obtain ⟨b, o, rfl, _, hc0, hc1⟩ := HA.out.atOrder (k := k) (by have := HN.out; omega)
    obtain ⟨b2, o2, rfl, _, hd0⟩ := HB.out.int (k := k) (by have := HN2.out; omega)
    have HOL : Hid (oLeft l d k = decide (d.getD k 0 < (l.getD k Order.zero).fMany)) := rfl
    have hkn : (k : Int) < (n : Int) := by omega
    generalize hP : (l.getD k Order.zero).fPrice = P at *
    have HP := Lib.hid hP; clear hP
    generalize (l.getD k Order.zero).fMany = M at *
    generalize d.getD k 0 = T at *
    by_cases hTM : T < M
    case neg =>
      have hd : decide (T < M) = false := decide_eq_false hTM
      have HE := Lib.hid (pickTo_keep (b := true) (show oLeft l d k = false by rw [HOL.out]; exact hd))
      generalize pickTo l d true k = v at *
      go_wp2_with fail
      go_quiet (fail)
      go_wp2_with fail
      go_roundw
      case rel => exact ⟨k + 1, by omega, by go_num, by rw [HE.out], _, rfl⟩
      case measure => simp [intOf]; omega
    have HT : Hid (oLeft l d k = true) := by rw [Hid, HOL.out]; exact decide_eq_true hTM
    rcases pickTo_form l d true k with hv | ⟨j, hv, hj⟩
    · have HE := Lib.hid (pickTo_new HT.out hv)
      rw [hv]
      clear hv
      go_wp2_with fail
      go_quiet (fail)
      go_wp2_with fail
      go_roundw
      case rel => exact ⟨k + 1, by omega, by go_num, by rw [HE.out], _, rfl⟩
      case measure => simp [intOf]; omega
    · obtain ⟨_, _, e2, _, hj0, _⟩ := HA.out.atOrder (k := j) (by have := HN.out; omega)
      cases e2
      have hj1 : decide ((j : Int) < 0) = false := decide_eq_false (by omega)
      have hj2 : (0 : Int) ≤ (j : Int) := by omega
      have hj3 : (j : Int) < (n : Int) := by omega
      have HV := Lib.hid hv
      rw [hv]; clear hv
      generalize hQ : (l.getD j Order.zero).fPrice = Q at *
      have HQ := Lib.hid hQ; clear hQ
      by_cases hPQ : Q < P
      · have HE := Lib.hid (pickTo_better HT.out HV.out (by rw [oBetter]; simp only [oAt, HP.out, HQ.out]; simpa using hPQ))
        go_wp2_with fail
        go_quiet (fail)
        go_wp2_with fail
        go_roundw
        case rel => exact ⟨k + 1, by omega, by go_num, by rw [HE.out], _, rfl⟩
        case measure => simp [intOf]; omega
      · have hPQ' : decide (Q < P) = false := decide_eq_false hPQ
        have HE := Lib.hid (pickTo_worse HV.out (by rw [oBetter]; simp only [oAt, HP.out, HQ.out]; simpa using hPQ))
        go_wp2_with fail
        go_quiet (fail)
        go_wp2_with fail
        go_roundw
        case rel => exact ⟨k + 1, by omega, by go_num, by rw [HE.out], _, rfl⟩
        case measure => simp [intOf]; omega

end Go.Proofs.YtlhfkidgmdojjaaDoor
