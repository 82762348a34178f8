/- The walk of FnExactTradeMany: it returns true, and writes nothing that was there. -/
import Derived.Test.YtlhfkidgmdojjaaMkJ
namespace Go.Proofs.Ytlhfkidgmdojjaa.exTM
open Go.RowKit Go.Proofs.Ytlhfkidgmdojjaa

set_option maxHeartbeats 1000000 in
theorem walk (w : World) (A0 : Option Addr) (n0 c0 : Nat) (x0 : List Order) (hn0 : x0.length = n0) (hm0 : n0 ≤ maxLen) (hA0 : Rd w A0 (flatOrder x0)) (A1 : Option Addr) (n1 c1 : Nat) (x1 : List Order) (hn1 : x1.length = n1) (hm1 : n1 ≤ maxLen) (hA1 : Rd w A1 (flatOrder x1)) :
    Calls Try.prog 4 #[.slice A0 n0 c0, .slice A1 n1 c1] w fun e w' => e = .returned (.bool true) ∧ Below w.heap.size w w' := by
  unfold maxLen at hm0
  have HA0 := Lib.hid hA0; clear hA0
  have HN0 := Lib.hid hn0; clear hn0
  unfold maxLen at hm1
  have HA1 := Lib.hid hA1; clear hA1
  have HN1 := Lib.hid hn1; clear hn1
  by_cases hs0 : n0 ≤ 1048576
  case neg =>
    go_enter Try.func4, Try.ntmps4
    go_wp2_with fail
    refine (szOrderS_no A0 n0 c0 _ _ (by omega) (by omega) (by omega)).mono ?_
    rintro e w' ⟨rfl, rfl⟩
    go_wp2_with fail
    go_ret
    exact ⟨rfl, Below.refl _ _⟩
  by_cases hs1 : n0 + n1 ≤ 1048576
  case neg =>
    go_enter Try.func4, Try.ntmps4
    go_wp2_with fail
    refine (szOrderS_ok A0 n0 c0 _ _ (by omega) (by omega)).mono ?_
    rintro e w' ⟨rfl, rfl⟩
    go_wp2_with fail
    refine (szOrderS_no A1 n1 c1 _ _ (by omega) (by omega) (by omega)).mono ?_
    rintro e w' ⟨rfl, rfl⟩
    go_wp2_with fail
    go_ret
    exact ⟨rfl, Below.refl _ _⟩
  have ht0 : n0 ≤ 1048576 := by omega
  have ht1 : n1 ≤ 1048576 := by omega
  go_enter Try.func4, Try.ntmps4
  go_wp2_with fail
  refine (szOrderS_ok A0 n0 c0 _ _ (by omega) (by omega)).mono ?_
  rintro e w' ⟨rfl, rfl⟩
  go_wp2_with fail
  refine (szOrderS_ok A1 n1 c1 _ _ (by omega) (by omega)).mono ?_
  rintro e w' ⟨rfl, rfl⟩
  go_wp2_with fail
  have hb : Below w.heap.size w w := Below.refl _ _
  refine (toOrderS_any A0 n0 c0 x0 _ HN0.out ht0 (HA0.out.below hb)).mono ?_
  rintro e w1 ⟨rfl, hos0, hbn⟩
  replace hb := seqB hb hbn
  clear hbn
  go_wp2_with fail
  refine (toOrderS_any A1 n1 c1 x1 _ HN1.out ht1 (HA1.out.below hb)).mono ?_
  rintro e w2 ⟨rfl, hos1, hbn⟩
  replace hb := seqB hb hbn
  replace hos0 := hos0.below hbn
  clear hbn
  go_wp2_with fail
  refine (specTM2 _ n0 n0 x0 _ n1 n1 x1 _ HN0.out ht0 hos0.rd HN1.out ht1 hos1.rd).mono ?_
  rintro e w3 ⟨rfl, hbn⟩
  replace hb := seqB hb hbn
  replace hos0 := hos0.below hbn
  replace hos1 := hos1.below hbn
  clear hbn
  clear hos0
  clear hos1
  go_wp2_with fail
  refine (toOrderS_any A0 n0 c0 x0 _ HN0.out ht0 (HA0.out.below hb)).mono ?_
  rintro e w4 ⟨rfl, hox0, hbn⟩
  replace hb := seqB hb hbn
  clear hbn
  go_wp2_with fail
  refine (toOrderS_any A1 n1 c1 x1 _ HN1.out ht1 (HA1.out.below hb)).mono ?_
  rintro e w5 ⟨rfl, hox1, hbn⟩
  replace hb := seqB hb hbn
  replace hox0 := hox0.below hbn
  clear hbn
  go_wp2_with fail
  refine (implTM2 _ n0 n0 x0 _ n1 n1 x1 _ HN0.out ht0 hox0.rd HN1.out ht1 hox1.rd).mono ?_
  rintro e w6 ⟨rfl, hbn⟩
  replace hb := seqB hb hbn
  replace hox0 := hox0.below hbn
  replace hox1 := hox1.below hbn
  clear hbn
  generalize manyV x0 x1 = s at *
  have hne : (s != s) = false := by simp
  go_wp2_with fail
  refine (toOrderS_any A0 n0 c0 x0 _ HN0.out ht0 (HA0.out.below hb)).mono ?_
  rintro e w7 ⟨rfl, hoy0, hbn⟩
  replace hb := seqB hb hbn
  replace hox0 := hox0.below hbn
  replace hox1 := hox1.below hbn
  clear hbn
  go_wp2_with fail
  refine (eqOrderS_same _ _ n0 n0 n0 x0 _ HN0.out ht0 hox0.rd hoy0.rd).mono ?_
  rintro e w8 ⟨rfl, hbn⟩
  clear hoy0
  replace hb := seqB hb hbn
  replace hox0 := hox0.below hbn
  replace hox1 := hox1.below hbn
  clear hbn
  go_wp2_with fail
  refine (toOrderS_any A1 n1 c1 x1 _ HN1.out ht1 (HA1.out.below hb)).mono ?_
  rintro e w9 ⟨rfl, hoy1, hbn⟩
  replace hb := seqB hb hbn
  replace hox0 := hox0.below hbn
  replace hox1 := hox1.below hbn
  clear hbn
  go_wp2_with fail
  refine (eqOrderS_same _ _ n1 n1 n1 x1 _ HN1.out ht1 hox1.rd hoy1.rd).mono ?_
  rintro e w10 ⟨rfl, hbn⟩
  clear hoy1
  replace hb := seqB hb hbn
  replace hox0 := hox0.below hbn
  replace hox1 := hox1.below hbn
  clear hbn
  go_wp2_with fail
  go_ret
  exact ⟨rfl, hb⟩
end Go.Proofs.Ytlhfkidgmdojjaa.exTM
