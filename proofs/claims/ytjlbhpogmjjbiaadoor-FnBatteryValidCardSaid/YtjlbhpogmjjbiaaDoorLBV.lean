/- The walk of FnBatteryValid: it returns true, and writes nothing that was there. -/
import Derived.Test.YtjlbhpogmjjbiaaDoorDrB
import Derived.Test.YtjlbhpogmjjbiaaDoorLawI
import Derived.Test.YtjlbhpogmjjbiaaDoorBatM
import Derived.Test.YtjlbhpogmjjbiaaDoorBatN
namespace Go.Proofs.YtjlbhpogmjjbiaaDoor.lBV
open Go.RowKit Go.Proofs.YtjlbhpogmjjbiaaDoor

set_option maxHeartbeats 2000000 in
theorem walk (w : World) (A : Option Addr) (m c : Nat) (hc : m ≤ c) (hm : m ≤ maxLen) (hA : RdB w A m) :
    Calls Tryd.prog 3 #[.slice A m c] w fun e w' => e = .returned (.bool true) ∧ Below w.heap.size w w' := by
  unfold maxLen at hm
  by_cases hs : m ≤ 1048576
  case neg =>
    go_enter Tryd.func3, Tryd.ntmps3
    go_wp2_with fail
    go_ret
    exact ⟨rfl, Below.refl _ _⟩
  have HA := Lib.hid hA; clear hA
  have hb : Below w.heap.size w w := Below.refl _ _
  go_enter Tryd.func3, Tryd.ntmps3
  go_wp2_with fail
  refine (dBV A m c w hc hs HA.out).mono ?_
  rintro e w1 ⟨s, r, l, rfl, hs1, hr1, hl1, hbn⟩
  replace hb := seqB hb hbn
  clear hbn
  have hbox := new_box w1 (.cells #[.int .i64 s, .int .i64 r, .int .i64 l] 24)
  replace hb := allocB hb (.cells #[.int .i64 s, .int .i64 r, .int .i64 l] 24)
  go_wp2_with fail
  refine (implBV _ _ _ _).mono ?_
  rintro e w2 ⟨rfl, hbn⟩
  replace hb := seqB hb hbn
  replace hbox := be_box hbox hbn
  clear hbn
  (try clear g0 g1 g2)
  obtain ⟨g0, g1, g2⟩ := cells3 hbox.out
  generalize hV : batB s r l = b at *
  have HV := Lib.hid hV; clear hV
  have hne : (b != b) = false := by simp
  go_wp2_with fail
  refine (specBV _ _ _ _).mono ?_
  rintro e w3 ⟨rfl, hbn⟩
  replace hb := seqB hb hbn
  replace hbox := be_box hbox hbn
  clear hbn
  (try clear g0 g1 g2)
  obtain ⟨g0, g1, g2⟩ := cells3 hbox.out
  rw [HV.out]
  cases b with
  | false =>
    go_wp2_with fail
    refine (aliveC _).mono ?_
    rintro e w4 ⟨rfl, hbn⟩
    replace hb := seqB hb hbn
    replace hbox := be_box hbox hbn
    clear hbn
    go_wp2_with fail
    go_ret
    exact ⟨rfl, hb⟩
  | true =>
    obtain ⟨e1, e2⟩ := bat_edge HV.out
    go_wp2_with fail
    refine (implBV _ _ _ _).mono ?_
    rintro e w4 ⟨rfl, hbn⟩
    replace hb := seqB hb hbn
    replace hbox := be_box hbox hbn
    clear hbn
    (try clear g0 g1 g2)
    obtain ⟨g0, g1, g2⟩ := cells3 hbox.out
    go_wp2_with fail
    refine (implBV _ _ _ _).mono ?_
    rintro e w5 ⟨rfl, hbn⟩
    replace hb := seqB hb hbn
    replace hbox := be_box hbox hbn
    clear hbn
    (try clear g0 g1 g2)
    obtain ⟨g0, g1, g2⟩ := cells3 hbox.out
    go_wp2_with fail
    refine (aliveC _).mono ?_
    rintro e w6 ⟨rfl, hbn⟩
    replace hb := seqB hb hbn
    replace hbox := be_box hbox hbn
    clear hbn
    go_wp2_with fail
    go_ret
    exact ⟨rfl, hb⟩
end Go.Proofs.YtjlbhpogmjjbiaaDoor.lBV
