/- The walk of FnAlarmStep: it returns true, and writes nothing that was there. -/
import Derived.Test.YtodkccjfhpeoaaaDoorDrA
import Derived.Test.YtodkccjfhpeoaaaDoorLawI
import Derived.Test.YtodkccjfhpeoaaaDoorAlS
namespace Go.Proofs.YtodkccjfhpeoaaaDoor.lAS
open Go.RowKit Go.Proofs.YtodkccjfhpeoaaaDoor

def unsB (s : Int) : Bool := s == 1 || s == 3
theorem unseenC (s : Int) (w : World) : Calls Tryd.prog 23 #[.int .i64 s] w fun e w' => e = .returned (.bool (unsB s)) ∧ w = w' := by
  unfold unsB
  cases h1 : (s == 1) with
  | true =>
    go_enter Tryd.func23, Tryd.ntmps23
    go_wp2_with fail
    go_ret
    exact ⟨rfl, rfl⟩
  | false =>
    go_enter Tryd.func23, Tryd.ntmps23
    go_wp2_with fail
    go_ret
    exact ⟨ret_bool (by simp), rfl⟩
theorem step_law (s ev : Int) : alStep s ev = -1 ∨ (0 ≤ alStep s ev ∧ alStep s ev ≤ 3 ∧ alStep (alStep s ev) ev = alStep s ev ∧ ((ev == 2) = true → unsB (alStep s ev) = false) ∧ ((ev == 2) = false → unsB s = true → unsB (alStep s ev) = true)) := by
  cases h1 : inB s 0 3 with
  | false => left; exact alStep_no1 h1
  | true =>
    cases h2 : inB ev 0 2 with
    | false => left; exact alStep_no2 h2
    | true =>
      right
      rcases four h1 with rfl | rfl | rfl | rfl <;> rcases three h2 with rfl | rfl | rfl <;> decide

set_option maxHeartbeats 2000000 in
theorem walk (w : World) (hst : ASt w) (A : Option Addr) (m c : Nat) (hc : m ≤ c) (hm : m ≤ maxLen) (hA : RdB w A m) :
    Calls Tryd.prog 6 #[.slice A m c] w fun e w' => e = .returned (.bool true) ∧ Below w.heap.size w w' := by
  unfold maxLen at hm
  by_cases hs : m ≤ 1048576
  case neg =>
    go_enter Tryd.func6, Tryd.ntmps6
    go_wp2_with fail
    go_ret
    exact ⟨rfl, Below.refl _ _⟩
  have HA := Lib.hid hA; clear hA
  have HS := Lib.hid hst; clear hst
  have hb : Below w.heap.size w w := Below.refl _ _
  go_enter Tryd.func6, Tryd.ntmps6
  go_wp2_with fail
  refine (dDrawAlarmStep A m c w hc hs HA.out).mono ?_
  rintro e w1 ⟨s, ev, rfl, hs1, hs2, hbn⟩
  replace hb := seqB hb hbn
  replace HS := Lib.hid (HS.out.below hbn)
  clear hbn
  go_wp2_with fail
  refine (implAS _ _ _ HS.out).mono ?_
  rintro e w' ⟨rfl, rfl⟩
  have HK := Lib.hid (step_law s ev)
  generalize hV : alStep s ev = x at *
  have HV := Lib.hid hV; clear hV
  have hne : (x != x) = false := by simp
  go_wp2_with fail
  refine (specAS _ _ _).mono ?_
  rintro e w' ⟨rfl, rfl⟩
  rw [HV.out]
  rcases HK.out with hx | ⟨hx0, hx1, hag, k1, k2⟩
  · have hx' : (x == -1) = true := by simp [hx]
    have hlt : x < 0 := by omega
    go_wp2_with fail
    refine (aliveC _).mono ?_
    rintro e w2 ⟨rfl, hbn⟩
    replace hb := seqB hb hbn
    replace HS := Lib.hid (HS.out.below hbn)
    clear hbn
    go_wp2_with fail
    go_ret
    exact ⟨ret_bool (by simp), hb⟩
  · have hag' := Lib.hid hag; clear hag
    have hlt : ¬ x < 0 := by omega
    have hle : x ≤ 3 := hx1
    have hxx : (x == x) = true := by simp
    go_wp2_with fail
    refine (implAS _ _ _ HS.out).mono ?_
    rintro e w' ⟨rfl, rfl⟩
    rw [hag'.out]
    cases he : (ev == 2) with
    | true =>
      have he' : (ev != 2) = false := by simpa [bne] using he
      have k3 := k1 he
      go_wp2_with (go_at_call 23; refine (unseenC x _).mono ?_; rw [k3]; rintro e w' ⟨rfl, rfl⟩)
      go_ret
      exact ⟨ret_bool (by simp), hb⟩
    | false =>
      have he' : (ev != 2) = true := by simp [bne, he]
      have k3 := k2 he
      cases hu : unsB s with
      | false =>
        go_wp2_with (first | (go_at_call 23; refine (unseenC s _).mono ?_; rw [hu]; rintro e w' ⟨rfl, rfl⟩))
        go_ret
        exact ⟨ret_bool (by simp), hb⟩
      | true =>
        have k4 := k3 hu
        go_wp2_with (first | (go_at_call 23; refine (unseenC s _).mono ?_; rw [hu]; rintro e w' ⟨rfl, rfl⟩) | (go_at_call 23; refine (unseenC x _).mono ?_; rw [k4]; rintro e w' ⟨rfl, rfl⟩))
        go_ret
        exact ⟨ret_bool (by simp), hb⟩
end Go.Proofs.YtodkccjfhpeoaaaDoor.lAS
