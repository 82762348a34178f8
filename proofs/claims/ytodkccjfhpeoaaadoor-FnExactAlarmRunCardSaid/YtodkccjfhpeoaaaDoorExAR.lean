/- The walk of FnExactAlarmRun: it returns true, and writes nothing that was there. -/
import Derived.Test.YtodkccjfhpeoaaaDoorAlR
namespace Go.Proofs.YtodkccjfhpeoaaaDoor.exAR
open Go.RowKit Go.Proofs.YtodkccjfhpeoaaaDoor

set_option maxHeartbeats 1000000 in
theorem walk (w : World) (hst : ASt w) (a0 : Int) (_w0 : (Lit.int .i64 a0).wf = true) (A1 : Option Addr) (n1 c1 : Nat) (x1 : List Int) (hn1 : x1.length = n1) (hm1 : n1 ≤ maxLen) (hA1 : Rd w A1 (ints x1)) (_hw1 : ∀ x ∈ x1, (Lit.int .i64 x).wf = true) :
    Calls Tryd.prog 4 #[.int .i64 a0, .slice A1 n1 c1] w fun e w' => e = .returned (.bool true) ∧ Below w.heap.size w w' := by
  have HST := Lib.hid hst; clear hst
  unfold maxLen at hm1
  have HA1 := Lib.hid hA1; clear hA1
  have HN1 := Lib.hid hn1; clear hn1
  by_cases hs1 : n1 ≤ 1048576
  case neg =>
    go_enter Tryd.func4, Tryd.ntmps4
    go_wp2_with fail
    go_ret
    exact ⟨rfl, Below.refl _ _⟩
  have ht1 := hs1
  go_enter Tryd.func4, Tryd.ntmps4
  go_wp2_with fail
  have hb : Below w.heap.size w w := Below.refl _ _
  refine (toIntS_any A1 n1 c1 x1 _ HN1.out ht1 (HA1.out.below hb)).mono ?_
  rintro e w1 ⟨rfl, hos1, hbn⟩
  replace hb := seqB hb hbn
  clear hbn
  go_wp2_with fail
  refine (specAR a0 _ n1 n1 x1 _ HN1.out ht1 hos1.rd).mono ?_
  rintro e w' ⟨rfl, rfl⟩
  clear hos1
  go_wp2_with fail
  refine (toIntS_any A1 n1 c1 x1 _ HN1.out ht1 (HA1.out.below hb)).mono ?_
  rintro e w3 ⟨rfl, hox1, hbn⟩
  replace hb := seqB hb hbn
  clear hbn
  go_wp2_with fail
  refine (implAR a0 _ n1 n1 x1 _ HN1.out ht1 hox1.rd (HST.out.below hb)).mono ?_
  rintro e w' ⟨rfl, rfl⟩
  generalize alRun a0 x1 = s at *
  have hne : (s != s) = false := by simp
  go_wp2_with fail
  refine (toIntS_any A1 n1 c1 x1 _ HN1.out ht1 (HA1.out.below hb)).mono ?_
  rintro e w5 ⟨rfl, hoy1, hbn⟩
  replace hb := seqB hb hbn
  replace hox1 := hox1.below hbn
  clear hbn
  go_wp2_with fail
  refine (eqIntS_same _ _ n1 n1 n1 x1 _ HN1.out ht1 hox1.rd hoy1.rd).mono ?_
  rintro e w6 ⟨rfl, q6, rfl⟩
  have hbn := drewB w5 q6
  generalize w5.drewN q6 = w6 at *
  clear hoy1
  replace hb := seqB hb hbn
  replace hox1 := hox1.below hbn
  clear hbn
  go_wp2_with fail
  go_ret
  exact ⟨rfl, hb⟩
end Go.Proofs.YtodkccjfhpeoaaaDoor.exAR
