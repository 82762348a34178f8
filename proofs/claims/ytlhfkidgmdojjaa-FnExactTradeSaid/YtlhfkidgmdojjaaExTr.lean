/- The walk of FnExactTrade: it returns true, and writes nothing that was there. -/
import Derived.Test.YtlhfkidgmdojjaaMkJ
namespace Go.Proofs.Ytlhfkidgmdojjaa.exTr
open Go.RowKit Go.Proofs.Ytlhfkidgmdojjaa

theorem own_turned_ne {A A' : Option Addr} {n base : Nat} {w w' : World} {E : TypeId} {size n' : Nat} {cs : List Value} (h : Turned A n w w') (ho : Own w base E size A' n' cs) (hg : ∀ a a', 0 < n → 0 < n' → A = some a → A' = some a' → a.block ≠ a'.block) : Own w' base E size A' n' cs := by
  refine ⟨ho.1, fun hn => ?_⟩
  obtain ⟨g', cur, e, hge, hh, ht⟩ := ho.2 hn
  exact ⟨g', cur, e, hge, (h.block g' (fun a h0 ha => fun e' => hg a _ h0 hn ha e e'.symm)).trans hh, ht⟩
theorem tradeV_len (asks bids : List Order) : (tradeV asks bids).1.length ≤ 1000 ∧ (tradeV asks bids).2.length ≤ 1000 := by
  rcases trade_law asks bids with ⟨e, _⟩ | ⟨ha, hb, e1, e2, _⟩
  · rw [e]; simp
  · have := side_len ha; have := side_len hb; omega
set_option maxHeartbeats 2000000 in
theorem walk (w : World) (A0 : Option Addr) (n0 c0 : Nat) (x0 : List Order) (hn0 : x0.length = n0) (hm0 : n0 ≤ maxLen) (hA0 : Rd w A0 (flatOrder x0)) (A1 : Option Addr) (n1 c1 : Nat) (x1 : List Order) (hn1 : x1.length = n1) (hm1 : n1 ≤ maxLen) (hA1 : Rd w A1 (flatOrder x1)) :
    Calls Try.prog 6 #[.slice A0 n0 c0, .slice A1 n1 c1] w fun e w' => e = .returned (.bool true) ∧ Below w.heap.size w w' := by
  unfold maxLen at hm0 hm1
  have HA0 := Lib.hid hA0; clear hA0
  have HA1 := Lib.hid hA1; clear hA1
  have HN0 := Lib.hid hn0; clear hn0
  have HN1 := Lib.hid hn1; clear hn1
  by_cases hs0 : n0 ≤ 1048576
  case neg =>
    go_enter Try.func6, Try.ntmps6
    go_wp2_with fail
    refine (szOrderS_no A0 n0 c0 _ _ (by omega) (by omega) (by omega)).mono ?_
    rintro e w' ⟨rfl, rfl⟩
    go_wp2_with fail
    go_ret
    exact ⟨rfl, Below.refl _ _⟩
  by_cases hs1 : n0 + n1 ≤ 1048576
  case neg =>
    go_enter Try.func6, Try.ntmps6
    go_wp2_with fail
    refine (szOrderS_ok A0 n0 c0 _ _ (by omega) (by omega)).mono ?_
    rintro e w' ⟨rfl, rfl⟩
    go_wp2_with fail
    refine (szOrderS_no A1 n1 c1 _ _ (by omega) (by omega) (by omega)).mono ?_
    rintro e w' ⟨rfl, rfl⟩
    go_wp2_with fail
    go_ret
    exact ⟨rfl, Below.refl _ _⟩
  have ht0 : n0 ≤ 1048576 := by omega
  have ht1 : n1 ≤ 1048576 := by omega
  have hb : Below w.heap.size w w := Below.refl _ _
  go_enter Try.func6, Try.ntmps6
  go_wp2_with fail
  refine (szOrderS_ok A0 n0 c0 _ _ (by omega) (by omega)).mono ?_
  rintro e w' ⟨rfl, rfl⟩
  go_wp2_with fail
  refine (szOrderS_ok A1 n1 c1 _ _ (by omega) (by omega)).mono ?_
  rintro e w' ⟨rfl, rfl⟩
  go_wp2_with fail
  refine (toOrderS_any A0 n0 c0 x0 _ HN0.out ht0 (HA0.out.below hb)).mono ?_
  rintro e w1 ⟨rfl, hos0, hbn⟩
  replace hb := seqB hb hbn
  clear hbn
  go_wp2_with fail
  refine (toOrderS_any A1 n1 c1 x1 _ HN1.out ht1 (HA1.out.below hb)).mono ?_
  rintro e w2 ⟨rfl, hos1, hbn⟩
  replace hb := seqB hb hbn
  replace hos0 := hos0.below hbn
  clear hbn
  go_wp2_with fail
  refine (specTr _ _ n0 n1 n0 n1 x0 x1 _ HN0.out HN1.out ht0 ht1 hos0.rd hos1.rd).mono ?_
  rintro e w3 ⟨BW0, dW0, BW1, dW1, rfl, hoW0, hoW1, _, hbn⟩
  replace hb := seqB hb hbn
  replace hos0 := hos0.below hbn
  replace hos1 := hos1.below hbn
  clear hbn
  clear hos0 hos1
  have hp : Below w3.heap.size w3 w3 := Below.refl _ _
  have HW0 := Lib.hid hoW0.rd; clear hoW0
  have HW1 := Lib.hid hoW1.rd; clear hoW1
  have hgw0 := hb.size; have hgp0 := hp.size
  go_wp2_with fail
  refine (toOrderS_any A0 n0 c0 x0 _ HN0.out ht0 (HA0.out.below hb)).mono ?_
  rintro e w4 ⟨rfl, hox0, hbn⟩
  replace hb := seqB hb hbn
  replace hp := hp.trans (hbn.mono hp.size)
  clear hbn
  have hgw1 := hb.size; have hgp1 := hp.size
  have hsep := hox0.lt
  go_wp2_with fail
  refine (toOrderS_any A1 n1 c1 x1 _ HN1.out ht1 (HA1.out.below hb)).mono ?_
  rintro e w5 ⟨rfl, hox1, hbn⟩
  replace hb := seqB hb hbn
  replace hp := hp.trans (hbn.mono hp.size)
  replace hox0 := hox0.below hbn
  clear hbn
  have hlt0 := hox0.lt
  have hlt1 := hox1.lt
  have hgwG := hb.size; have hgpG := hp.size
  go_wp2_with fail
  refine (implTr _ _ n0 n1 n0 n1 x0 x1 _ HN0.out HN1.out ht0 ht1 hox0.rd hox1.rd).mono ?_
  rintro e w6 ⟨BG0, dG0, BG1, dG1, rfl, hoG0, hoG1, hne, hbn⟩
  replace hb := seqB hb hbn
  replace hp := hp.trans (hbn.mono hp.size)
  replace hox0 := hox0.below hbn
  replace hox1 := hox1.below hbn
  clear hbn
  obtain ⟨hV0l', hV1l'⟩ := tradeV_len x0 x1
  have hV0l : (tradeV x0 x1).1.length ≤ 1048576 := by omega
  have hV1l : (tradeV x0 x1).2.length ≤ 1048576 := by omega
  generalize hV0 : (tradeV x0 x1).1 = V0 at *
  have HV0 := Lib.hid hV0; clear hV0
  generalize hV1 : (tradeV x0 x1).2 = V1 at *
  have HV1 := Lib.hid hV1; clear hV1
  have HNE := Lib.hid hne; clear hne
  go_wp2_with fail
  refine (eqIntS_same _ _ V0.length _ _ V0 _ rfl hV0l hoG0.rd (HW0.out.below hp)).mono ?_
  rintro e w7 ⟨rfl, qw7, rfl⟩
  have hbn := drewB w6 qw7
  generalize w6.drewN qw7 = w7 at *
  replace hb := seqB hb hbn
  replace hp := hp.trans (hbn.mono hp.size)
  replace hox0 := hox0.below hbn
  replace hox1 := hox1.below hbn
  replace hoG0 := hoG0.below hbn
  replace hoG1 := hoG1.below hbn
  clear hbn
  go_wp2_with fail
  refine (eqIntS_same _ _ V1.length _ _ V1 _ rfl hV1l hoG1.rd (HW1.out.below hp)).mono ?_
  rintro e w8 ⟨rfl, qw8, rfl⟩
  have hbn := drewB w7 qw8
  generalize w7.drewN qw8 = w8 at *
  replace hb := seqB hb hbn
  replace hp := hp.trans (hbn.mono hp.size)
  replace hox0 := hox0.below hbn
  replace hox1 := hox1.below hbn
  replace hoG0 := hoG0.below hbn
  replace hoG1 := hoG1.below hbn
  clear hbn
  go_wp2_with fail
  refine (toOrderS_any A0 n0 c0 x0 _ HN0.out ht0 (HA0.out.below hb)).mono ?_
  rintro e w9 ⟨rfl, hoy0, hbn⟩
  replace hb := seqB hb hbn
  replace hp := hp.trans (hbn.mono hp.size)
  replace hox0 := hox0.below hbn
  replace hox1 := hox1.below hbn
  replace hoG0 := hoG0.below hbn
  replace hoG1 := hoG1.below hbn
  clear hbn
  go_wp2_with fail
  refine (eqOrderS_same _ _ n0 n0 n0 x0 _ HN0.out ht0 hox0.rd hoy0.rd).mono ?_
  rintro e w10 ⟨rfl, hbn⟩
  replace hb := seqB hb hbn
  replace hp := hp.trans (hbn.mono hp.size)
  replace hox0 := hox0.below hbn
  replace hox1 := hox1.below hbn
  replace hoG0 := hoG0.below hbn
  replace hoG1 := hoG1.below hbn
  replace hoy0 := hoy0.below hbn
  clear hbn
  clear hoy0
  go_wp2_with fail
  refine (toOrderS_any A1 n1 c1 x1 _ HN1.out ht1 (HA1.out.below hb)).mono ?_
  rintro e w11 ⟨rfl, hoy1, hbn⟩
  replace hb := seqB hb hbn
  replace hp := hp.trans (hbn.mono hp.size)
  replace hox0 := hox0.below hbn
  replace hox1 := hox1.below hbn
  replace hoG0 := hoG0.below hbn
  replace hoG1 := hoG1.below hbn
  clear hbn
  go_wp2_with fail
  refine (eqOrderS_same _ _ n1 n1 n1 x1 _ HN1.out ht1 hox1.rd hoy1.rd).mono ?_
  rintro e w12 ⟨rfl, hbn⟩
  replace hb := seqB hb hbn
  replace hp := hp.trans (hbn.mono hp.size)
  replace hox0 := hox0.below hbn
  replace hox1 := hox1.below hbn
  replace hoG0 := hoG0.below hbn
  replace hoG1 := hoG1.below hbn
  replace hoy1 := hoy1.below hbn
  clear hbn
  clear hoy1
  go_wp2_with fail
  refine (markOrderS_own _ _ n0 n0 _ _ _ ht0 (by omega) (by omega) hox0).mono ?_
  rintro e wm0 ⟨rfl, _, hT⟩
  replace hb := hb.trans (hT.below (hox0.ge hgw0))
  replace hp := hp.trans (hT.below (hox0.ge hgp0))
  replace hoG0 := hT.own hoG0 hlt0
  replace hoG1 := hT.own hoG1 hlt0
  replace hox1 := hT.own hox1 hsep
  clear hT hox0
  go_wp2_with fail
  refine (markOrderS_own _ _ n1 n1 _ _ _ ht1 (by omega) (by omega) hox1).mono ?_
  rintro e wm1 ⟨rfl, _, hT⟩
  replace hb := hb.trans (hT.below (hox1.ge hgw1))
  replace hp := hp.trans (hT.below (hox1.ge hgp1))
  replace hoG0 := hT.own hoG0 hlt1
  replace hoG1 := hT.own hoG1 hlt1
  clear hT hox1
  go_wp2_with fail
  refine (eqIntS_same _ _ V0.length _ _ V0 _ rfl hV0l hoG0.rd (HW0.out.below hp)).mono ?_
  rintro e w13 ⟨rfl, qw13, rfl⟩
  have hbn := drewB wm1 qw13
  generalize wm1.drewN qw13 = w13 at *
  replace hb := seqB hb hbn
  replace hp := hp.trans (hbn.mono hp.size)
  replace hoG0 := hoG0.below hbn
  replace hoG1 := hoG1.below hbn
  clear hbn
  go_wp2_with fail
  refine (eqIntS_same _ _ V1.length _ _ V1 _ rfl hV1l hoG1.rd (HW1.out.below hp)).mono ?_
  rintro e w14 ⟨rfl, qw14, rfl⟩
  have hbn := drewB w13 qw14
  generalize w13.drewN qw14 = w14 at *
  replace hb := seqB hb hbn
  replace hp := hp.trans (hbn.mono hp.size)
  replace hoG0 := hoG0.below hbn
  replace hoG1 := hoG1.below hbn
  clear hbn
  go_wp2_with fail
  refine (markIntS_own _ _ V0.length _ _ _ _ hV0l (by omega) (by omega) hoG0).mono ?_
  rintro e wm2 ⟨rfl, hoM0, hT⟩
  replace hb := hb.trans (hT.below (hoG0.ge hgwG))
  replace hp := hp.trans (hT.below (hoG0.ge hgpG))
  replace hoG1 := own_turned_ne hT hoG1 HNE.out
  clear hT hoG0
  go_wp2_with fail
  refine (markIntS_own _ _ V1.length _ _ _ _ hV1l (by omega) (by omega) hoG1).mono ?_
  rintro e wm3 ⟨rfl, hoM1, hT⟩
  replace hb := hb.trans (hT.below (hoG1.ge hgwG))
  replace hp := hp.trans (hT.below (hoG1.ge hgpG))
  replace hoM0 := own_turned_ne hT hoM0 (fun a a' h1 h2 e1 e2 => (HNE.out a' a h2 h1 e2 e1).symm)
  clear hT hoG1
  have hq0 : (0 : Int) ≤ 1 + (V0.length : Nat) := by omega
  go_wp2_with fail
  refine (heldIntS_yes _ V0.length _ _ _ hV0l (by omega) (by omega) hoM0.rd).mono ?_
  rintro e w' ⟨rfl, rfl⟩
  go_wp2_with fail
  refine (heldIntS_yes _ V1.length _ _ _ hV1l (by omega) (by omega) hoM1.rd).mono ?_
  rintro e w' ⟨rfl, rfl⟩
  go_wp2_with fail
  refine (toOrderS_any A0 n0 c0 x0 _ HN0.out ht0 (HA0.out.below hb)).mono ?_
  rintro e w15 ⟨rfl, hoz0, hbn⟩
  replace hb := seqB hb hbn
  replace hp := hp.trans (hbn.mono hp.size)
  replace hoM0 := hoM0.below hbn
  replace hoM1 := hoM1.below hbn
  clear hbn
  go_wp2_with fail
  refine (toOrderS_any A1 n1 c1 x1 _ HN1.out ht1 (HA1.out.below hb)).mono ?_
  rintro e w16 ⟨rfl, hoz1, hbn⟩
  replace hb := seqB hb hbn
  replace hp := hp.trans (hbn.mono hp.size)
  replace hoM0 := hoM0.below hbn
  replace hoM1 := hoM1.below hbn
  replace hoz0 := hoz0.below hbn
  clear hbn
  go_wp2_with fail
  refine (implTr _ _ n0 n1 n0 n1 x0 x1 _ HN0.out HN1.out ht0 ht1 hoz0.rd hoz1.rd).mono ?_
  rintro e w17 ⟨BH0, dH0, BH1, dH1, rfl, hoH0, hoH1, _, hbn⟩
  replace hb := seqB hb hbn
  replace hp := hp.trans (hbn.mono hp.size)
  replace hoM0 := hoM0.below hbn
  replace hoM1 := hoM1.below hbn
  replace hoz0 := hoz0.below hbn
  replace hoz1 := hoz1.below hbn
  clear hbn
  rw [HV0.out] at hoH0 ⊢
  rw [HV1.out] at hoH1 ⊢
  go_wp2_with fail
  refine (eqIntS_same _ _ V0.length _ _ V0 _ rfl hV0l hoH0.rd (HW0.out.below hp)).mono ?_
  rintro e w18 ⟨rfl, qw18, rfl⟩
  have hbn := drewB w17 qw18
  generalize w17.drewN qw18 = w18 at *
  replace hb := seqB hb hbn
  replace hp := hp.trans (hbn.mono hp.size)
  replace hoM0 := hoM0.below hbn
  replace hoM1 := hoM1.below hbn
  replace hoz0 := hoz0.below hbn
  replace hoz1 := hoz1.below hbn
  replace hoH0 := hoH0.below hbn
  replace hoH1 := hoH1.below hbn
  clear hbn
  go_wp2_with fail
  refine (eqIntS_same _ _ V1.length _ _ V1 _ rfl hV1l hoH1.rd (HW1.out.below hp)).mono ?_
  rintro e w19 ⟨rfl, qw19, rfl⟩
  have hbn := drewB w18 qw19
  generalize w18.drewN qw19 = w19 at *
  replace hb := seqB hb hbn
  replace hp := hp.trans (hbn.mono hp.size)
  replace hoM0 := hoM0.below hbn
  replace hoM1 := hoM1.below hbn
  replace hoz0 := hoz0.below hbn
  replace hoz1 := hoz1.below hbn
  replace hoH0 := hoH0.below hbn
  replace hoH1 := hoH1.below hbn
  clear hbn
  go_wp2_with fail
  refine (heldIntS_yes _ V0.length _ _ _ hV0l (by omega) (by omega) hoM0.rd).mono ?_
  rintro e w' ⟨rfl, rfl⟩
  go_wp2_with fail
  refine (heldIntS_yes _ V1.length _ _ _ hV1l (by omega) (by omega) hoM1.rd).mono ?_
  rintro e w' ⟨rfl, rfl⟩
  go_wp2_with fail
  go_ret
  exact ⟨rfl, hb⟩
end Go.Proofs.Ytlhfkidgmdojjaa.exTr
