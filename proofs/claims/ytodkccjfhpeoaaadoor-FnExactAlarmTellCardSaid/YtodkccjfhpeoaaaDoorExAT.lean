/- The walk of FnExactAlarmTell: it returns true, and writes nothing that was there. -/
import Derived.Test.YtodkccjfhpeoaaaDoorAlT1
import Derived.Test.YtodkccjfhpeoaaaDoorAlT2
namespace Go.Proofs.YtodkccjfhpeoaaaDoor.exAT
open Go.RowKit Go.Proofs.YtodkccjfhpeoaaaDoor

set_option maxHeartbeats 1000000 in
theorem walk (w : World) (hst : ASt w) (A0 : Option Addr) (n0 c0 : Nat) (x0 : List Alarm) (hn0 : x0.length = n0) (hm0 : n0 ≤ maxLen) (hA0 : Rd w A0 (flatAlarm x0)) (a1 : Int) (_w1 : (Lit.int .i64 a1).wf = true) (a2 : Int) (_w2 : (Lit.int .i64 a2).wf = true) (a3 : Int) (_w3 : (Lit.int .i64 a3).wf = true) :
    Calls Tryd.prog 5 #[.slice A0 n0 c0, .int .i64 a1, .int .i64 a2, .int .i64 a3] w fun e w' => e = .returned (.bool true) ∧ Below w.heap.size w w' := by
  unfold maxLen at hm0
  have HA0 := Lib.hid hA0; clear hA0
  have HN0 := Lib.hid hn0; clear hn0
  have HST := Lib.hid hst; clear hst
  by_cases hs0 : n0 ≤ 1048576
  case neg =>
    go_enter Tryd.func5, Tryd.ntmps5
    go_wp2_with fail
    refine (szAlarmS_no A0 n0 c0 _ _ (by omega) (by omega) (by omega)).mono ?_
    rintro e w' ⟨rfl, rfl⟩
    go_wp2_with fail
    go_ret
    exact ⟨rfl, Below.refl _ _⟩
  have ht0 : n0 ≤ 1048576 := by omega
  go_enter Tryd.func5, Tryd.ntmps5
  go_wp2_with fail
  refine (szAlarmS_ok A0 n0 c0 _ _ (by omega) (by omega)).mono ?_
  rintro e w' ⟨rfl, rfl⟩
  go_wp2_with fail
  have hb : Below w.heap.size w w := Below.refl _ _
  refine (toAlarmS_any A0 n0 c0 x0 _ HN0.out ht0 (HA0.out.below hb)).mono ?_
  rintro e w1 ⟨rfl, hos0, hbn⟩
  replace hb := seqB hb hbn
  clear hbn
  go_wp2_with fail
  refine (specAT _ n0 n0 x0 a1 a2 a3 _ HN0.out ht0 hos0.rd).mono ?_
  rintro e w2 ⟨BW, dW, rfl, hoW, hbn⟩
  replace hb := seqB hb hbn
  replace hos0 := hos0.below hbn
  clear hbn
  clear hos0
  have hp : Below w2.heap.size w2 w2 := Below.refl _ _
  have HW := Lib.hid hoW.rd; clear hoW
  go_wp2_with fail
  have hgw0 := hb.size; have hgp0 := hp.size
  refine (toAlarmS_any A0 n0 c0 x0 _ HN0.out ht0 (HA0.out.below hb)).mono ?_
  rintro e w3 ⟨rfl, hox0, hbn⟩
  replace hb := seqB hb hbn
  replace hp := hp.trans (hbn.mono hp.size)
  clear hbn
  have hlt0 := hox0.lt
  have hgwG := hb.size; have hgpG := hp.size
  go_wp2_with fail
  refine (implAT _ n0 n0 x0 a1 a2 a3 _ HN0.out ht0 hox0.rd (HST.out.below hb)).mono ?_
  rintro e w4 ⟨BG, dG, rfl, hoG, hbn⟩
  replace hb := seqB hb hbn
  replace hp := hp.trans (hbn.mono hp.size)
  replace hox0 := hox0.below hbn
  clear hbn
  have hVl : (alTellL x0 a1 a2 a3).length ≤ 1048576 := alTell_len _ _ _ _
  generalize hV : alTellL x0 a1 a2 a3 = V at *
  have HV := Lib.hid hV; clear hV
  generalize hU : alTellB x0 a1 a2 a3 = U at *
  have HU := Lib.hid hU; clear hU
  have hne : (U != U) = false := by simp
  go_wp2_with fail
  refine (eqAlarmS_same _ _ V.length _ _ V _ rfl hVl hoG.rd (HW.out.below hp)).mono ?_
  rintro e w5 ⟨rfl, hbn⟩
  replace hb := seqB hb hbn
  replace hp := hp.trans (hbn.mono hp.size)
  replace hox0 := hox0.below hbn
  replace hoG := hoG.below hbn
  clear hbn
  go_wp2_with fail
  refine (toAlarmS_any A0 n0 c0 x0 _ HN0.out ht0 (HA0.out.below hb)).mono ?_
  rintro e w6 ⟨rfl, hoy0, hbn⟩
  replace hb := seqB hb hbn
  replace hp := hp.trans (hbn.mono hp.size)
  replace hox0 := hox0.below hbn
  replace hoG := hoG.below hbn
  clear hbn
  go_wp2_with fail
  refine (eqAlarmS_same _ _ n0 n0 n0 x0 _ HN0.out ht0 hox0.rd hoy0.rd).mono ?_
  rintro e w7 ⟨rfl, hbn⟩
  replace hb := seqB hb hbn
  replace hp := hp.trans (hbn.mono hp.size)
  replace hox0 := hox0.below hbn
  replace hoG := hoG.below hbn
  replace hoy0 := hoy0.below hbn
  clear hbn
  clear hoy0
  go_wp2_with fail
  refine (markAlarmS_own _ _ n0 n0 _ _ _ ht0 (by omega) (by omega) hox0).mono ?_
  rintro e w8 ⟨rfl, _, hT⟩
  replace hb := hb.trans (hT.below (hox0.ge hgw0))
  replace hp := hp.trans (hT.below (hox0.ge hgp0))
  replace hoG := hT.own hoG hlt0
  clear hT hox0
  go_wp2_with fail
  refine (eqAlarmS_same _ _ V.length _ _ V _ rfl hVl hoG.rd (HW.out.below hp)).mono ?_
  rintro e w9 ⟨rfl, hbn⟩
  replace hb := seqB hb hbn
  replace hp := hp.trans (hbn.mono hp.size)
  replace hoG := hoG.below hbn
  clear hbn
  go_wp2_with fail
  refine (markAlarmS_own _ _ V.length _ _ _ _ hVl (by omega) (by omega) hoG).mono ?_
  rintro e w10 ⟨rfl, hoM, hT⟩
  replace hb := hb.trans (hT.below (hoG.ge hgwG))
  replace hp := hp.trans (hT.below (hoG.ge hgpG))
  clear hT hoG
  go_wp2_with fail
  refine (heldAlarmS_yes _ V.length _ _ _ hVl (by omega) (by omega) hoM.rd).mono ?_
  rintro e w' ⟨rfl, rfl⟩
  go_wp2_with fail
  refine (toAlarmS_any A0 n0 c0 x0 _ HN0.out ht0 (HA0.out.below hb)).mono ?_
  rintro e w12 ⟨rfl, hoz0, hbn⟩
  replace hb := seqB hb hbn
  replace hp := hp.trans (hbn.mono hp.size)
  replace hoM := hoM.below hbn
  clear hbn
  go_wp2_with fail
  refine (implAT _ n0 n0 x0 a1 a2 a3 _ HN0.out ht0 hoz0.rd (HST.out.below hb)).mono ?_
  rintro e w13 ⟨BH, dH, rfl, hoH, hbn⟩
  replace hb := seqB hb hbn
  replace hp := hp.trans (hbn.mono hp.size)
  replace hoM := hoM.below hbn
  replace hoz0 := hoz0.below hbn
  clear hbn
  rw [HV.out] at hoH ⊢
  rw [HU.out]
  go_wp2_with fail
  refine (eqAlarmS_same _ _ V.length _ _ V _ rfl hVl hoH.rd (HW.out.below hp)).mono ?_
  rintro e w14 ⟨rfl, hbn⟩
  replace hb := seqB hb hbn
  replace hp := hp.trans (hbn.mono hp.size)
  replace hoM := hoM.below hbn
  replace hoz0 := hoz0.below hbn
  replace hoH := hoH.below hbn
  clear hbn
  go_wp2_with fail
  refine (heldAlarmS_yes _ V.length _ _ _ hVl (by omega) (by omega) hoM.rd).mono ?_
  rintro e w' ⟨rfl, rfl⟩
  go_wp2_with fail
  go_ret
  exact ⟨rfl, hb⟩
end Go.Proofs.YtodkccjfhpeoaaaDoor.exAT
