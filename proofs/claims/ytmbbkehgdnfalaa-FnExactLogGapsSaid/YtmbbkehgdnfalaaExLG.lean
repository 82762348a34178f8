/- The walk of FnExactLogGaps: it returns true, and writes nothing that was there. -/
import Derived.Test.YtmbbkehgdnfalaaLogG
namespace Go.Proofs.Ytmbbkehgdnfalaa.exLG
open Go.RowKit Go.Proofs.Ytmbbkehgdnfalaa

set_option maxHeartbeats 1000000 in
theorem walk (w : World) (A0 : Option Addr) (n0 c0 : Nat) (x0 : List Entry) (hn0 : x0.length = n0) (hm0 : n0 ≤ maxLen) (hA0 : Rd w A0 (flatEntry x0)) (a1 : Int) (_w1 : (Lit.int .i64 a1).wf = true) :
    Calls Try.prog 6 #[.slice A0 n0 c0, .int .i64 a1] w fun e w' => e = .returned (.bool true) ∧ Below w.heap.size w w' := by
  unfold maxLen at hm0
  have HA0 := Lib.hid hA0; clear hA0
  have HN0 := Lib.hid hn0; clear hn0
  by_cases hs0 : n0 ≤ 1048576
  case neg =>
    go_enter Try.func6, Try.ntmps6
    go_wp2_with fail
    refine (szEntryS_no A0 n0 c0 _ _ (by omega) (by omega) (by omega)).mono ?_
    rintro e w' ⟨rfl, rfl⟩
    go_wp2_with fail
    go_ret
    exact ⟨rfl, Below.refl _ _⟩
  have ht0 : n0 ≤ 1048576 := by omega
  go_enter Try.func6, Try.ntmps6
  go_wp2_with fail
  refine (szEntryS_ok A0 n0 c0 _ _ (by omega) (by omega)).mono ?_
  rintro e w' ⟨rfl, rfl⟩
  go_wp2_with fail
  have hb : Below w.heap.size w w := Below.refl _ _
  refine (toEntryS_any A0 n0 c0 x0 _ HN0.out ht0 (HA0.out.below hb)).mono ?_
  rintro e w1 ⟨rfl, hos0, hbn⟩
  replace hb := seqB hb hbn
  clear hbn
  go_wp2_with fail
  refine (specLG _ n0 n0 x0 a1 _ HN0.out ht0 hos0.rd).mono ?_
  rintro e w2 ⟨BW, dW, rfl, hoW, hbn⟩
  replace hb := seqB hb hbn
  replace hos0 := hos0.below hbn
  clear hbn
  clear hos0
  have hp : Below w2.heap.size w2 w2 := Below.refl _ _
  have HW := Lib.hid hoW.rd; clear hoW
  go_wp2_with fail
  have hgw0 := hb.size; have hgp0 := hp.size
  refine (toEntryS_any A0 n0 c0 x0 _ HN0.out ht0 (HA0.out.below hb)).mono ?_
  rintro e w3 ⟨rfl, hox0, hbn⟩
  replace hb := seqB hb hbn
  replace hp := hp.trans (hbn.mono hp.size)
  clear hbn
  have hlt0 := hox0.lt
  have hgwG := hb.size; have hgpG := hp.size
  go_wp2_with fail
  refine (implLG _ n0 n0 x0 a1 _ HN0.out ht0 hox0.rd (Nat.le_refl _)).mono ?_
  rintro e w4 ⟨BG, dG, rfl, hoG, hbn⟩
  replace hb := seqB hb hbn
  replace hp := hp.trans (hbn.mono hp.size)
  replace hox0 := hox0.below hbn
  clear hbn
  have hVl : (gaps x0 a1).length ≤ 1048576 := gaps_le _ _
  generalize hV : gaps x0 a1 = V at *
  have HV := Lib.hid hV; clear hV
  go_wp2_with fail
  refine (eqIntS_same _ _ V.length _ _ V _ rfl hVl hoG.rd (HW.out.below hp)).mono ?_
  rintro e w5 ⟨rfl, q5, rfl⟩
  have hbn := drewB w4 q5
  generalize w4.drewN q5 = w5 at *
  replace hb := seqB hb hbn
  replace hp := hp.trans (hbn.mono hp.size)
  replace hox0 := hox0.below hbn
  replace hoG := hoG.below hbn
  clear hbn
  go_wp2_with fail
  refine (toEntryS_any A0 n0 c0 x0 _ HN0.out ht0 (HA0.out.below hb)).mono ?_
  rintro e w6 ⟨rfl, hoy0, hbn⟩
  replace hb := seqB hb hbn
  replace hp := hp.trans (hbn.mono hp.size)
  replace hox0 := hox0.below hbn
  replace hoG := hoG.below hbn
  clear hbn
  go_wp2_with fail
  refine (eqEntryS_same _ _ n0 n0 n0 x0 _ HN0.out ht0 hox0.rd hoy0.rd).mono ?_
  rintro e w7 ⟨rfl, hbn⟩
  replace hb := seqB hb hbn
  replace hp := hp.trans (hbn.mono hp.size)
  replace hox0 := hox0.below hbn
  replace hoG := hoG.below hbn
  replace hoy0 := hoy0.below hbn
  clear hbn
  clear hoy0
  go_wp2_with fail
  refine (markEntryS_own _ _ n0 n0 _ _ _ ht0 (by omega) (by omega) hox0).mono ?_
  rintro e w8 ⟨rfl, _, hT⟩
  replace hb := hb.trans (hT.below (hox0.ge hgw0))
  replace hp := hp.trans (hT.below (hox0.ge hgp0))
  replace hoG := hT.own hoG hlt0
  clear hT hox0
  go_wp2_with fail
  refine (eqIntS_same _ _ V.length _ _ V _ rfl hVl hoG.rd (HW.out.below hp)).mono ?_
  rintro e w9 ⟨rfl, q9, rfl⟩
  have hbn := drewB w8 q9
  generalize w8.drewN q9 = w9 at *
  replace hb := seqB hb hbn
  replace hp := hp.trans (hbn.mono hp.size)
  replace hoG := hoG.below hbn
  clear hbn
  go_wp2_with fail
  refine (markIntS_own _ _ V.length _ _ _ _ hVl (by omega) (by omega) hoG).mono ?_
  rintro e w10 ⟨rfl, hoM, hT⟩
  replace hb := hb.trans (hT.below (hoG.ge hgwG))
  replace hp := hp.trans (hT.below (hoG.ge hgpG))
  clear hT hoG
  go_wp2_with fail
  refine (heldIntS_yes _ V.length _ _ _ hVl (by omega) (by omega) hoM.rd).mono ?_
  rintro e w' ⟨rfl, rfl⟩
  go_wp2_with fail
  refine (toEntryS_any A0 n0 c0 x0 _ HN0.out ht0 (HA0.out.below hb)).mono ?_
  rintro e w12 ⟨rfl, hoz0, hbn⟩
  replace hb := seqB hb hbn
  replace hp := hp.trans (hbn.mono hp.size)
  replace hoM := hoM.below hbn
  clear hbn
  go_wp2_with fail
  refine (implLG _ n0 n0 x0 a1 _ HN0.out ht0 hoz0.rd (Nat.le_refl _)).mono ?_
  rintro e w13 ⟨BH, dH, rfl, hoH, hbn⟩
  replace hb := seqB hb hbn
  replace hp := hp.trans (hbn.mono hp.size)
  replace hoM := hoM.below hbn
  replace hoz0 := hoz0.below hbn
  clear hbn
  rw [HV.out] at hoH ⊢
  go_wp2_with fail
  refine (eqIntS_same _ _ V.length _ _ V _ rfl hVl hoH.rd (HW.out.below hp)).mono ?_
  rintro e w14 ⟨rfl, q14, rfl⟩
  have hbn := drewB w13 q14
  generalize w13.drewN q14 = w14 at *
  replace hb := seqB hb hbn
  replace hp := hp.trans (hbn.mono hp.size)
  replace hoM := hoM.below hbn
  replace hoz0 := hoz0.below hbn
  replace hoH := hoH.below hbn
  clear hbn
  go_wp2_with fail
  refine (heldIntS_yes _ V.length _ _ _ hVl (by omega) (by omega) hoM.rd).mono ?_
  rintro e w' ⟨rfl, rfl⟩
  go_wp2_with fail
  go_ret
  exact ⟨rfl, hb⟩
end Go.Proofs.Ytmbbkehgdnfalaa.exLG
