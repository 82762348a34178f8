/- The walk of FnExactAlarmNext: it returns true, and writes nothing that was there. -/
import Derived.Test.YtkpebmcmdplbeaaAlD
namespace Go.Proofs.Ytkpebmcmdplbeaa.exNx
open Go.RowKit Go.Proofs.Ytkpebmcmdplbeaa

set_option maxHeartbeats 1000000 in
theorem walk (w : World) (A0 : Option Addr) (n0 c0 : Nat) (x0 : List Alarm) (hn0 : x0.length = n0) (hm0 : n0 ≤ maxLen) (hA0 : Rd w A0 (flatAlarm x0)) :
    Calls Try.prog 3 #[.slice A0 n0 c0] w fun e w' => e = .returned (.bool true) ∧ Below w.heap.size w w' := by
  unfold maxLen at hm0
  have HA0 := Lib.hid hA0; clear hA0
  have HN0 := Lib.hid hn0; clear hn0
  by_cases hs0 : n0 ≤ 1048576
  case neg =>
    go_enter Try.func3, Try.ntmps3
    go_wp2_with fail
    refine (szAlarmS_no A0 n0 c0 _ _ (by omega) (by omega) (by omega)).mono ?_
    rintro e w' ⟨rfl, rfl⟩
    go_wp2_with fail
    go_ret
    exact ⟨rfl, Below.refl _ _⟩
  have ht0 : n0 ≤ 1048576 := by omega
  go_enter Try.func3, Try.ntmps3
  go_wp2_with fail
  refine (szAlarmS_ok A0 n0 c0 _ _ (by omega) (by omega)).mono ?_
  rintro e w' ⟨rfl, rfl⟩
  go_wp2_with fail
  have hb : Below w.heap.size w w := Below.refl _ _
  refine (toAlarmS_any A0 n0 c0 x0 _ HN0.out ht0 (HA0.out.below hb)).mono ?_
  rintro e w1 ⟨rfl, hos0, hbn⟩
  replace hb := seqB hb hbn
  clear hbn
  go_wp2_with fail
  refine (specNx _ n0 n0 x0 _ HN0.out ht0 hos0.rd).mono ?_
  rintro e w2 ⟨rfl, hbn⟩
  replace hb := seqB hb hbn
  replace hos0 := hos0.below hbn
  clear hbn
  clear hos0
  go_wp2_with fail
  refine (toAlarmS_any A0 n0 c0 x0 _ HN0.out ht0 (HA0.out.below hb)).mono ?_
  rintro e w3 ⟨rfl, hox0, hbn⟩
  replace hb := seqB hb hbn
  clear hbn
  go_wp2_with fail
  refine (implNx _ n0 n0 x0 _ HN0.out ht0 hox0.rd).mono ?_
  rintro e w4 ⟨rfl, hbn⟩
  replace hb := seqB hb hbn
  replace hox0 := hox0.below hbn
  clear hbn
  generalize nextV x0 = s at *
  have hne : (s != s) = false := by simp
  go_wp2_with fail
  refine (toAlarmS_any A0 n0 c0 x0 _ HN0.out ht0 (HA0.out.below hb)).mono ?_
  rintro e w5 ⟨rfl, hoy0, hbn⟩
  replace hb := seqB hb hbn
  replace hox0 := hox0.below hbn
  clear hbn
  go_wp2_with fail
  refine (eqAlarmS_same _ _ n0 n0 n0 x0 _ HN0.out ht0 hox0.rd hoy0.rd).mono ?_
  rintro e w6 ⟨rfl, hbn⟩
  clear hoy0
  replace hb := seqB hb hbn
  replace hox0 := hox0.below hbn
  clear hbn
  go_wp2_with fail
  go_ret
  exact ⟨rfl, hb⟩
end Go.Proofs.Ytkpebmcmdplbeaa.exNx
