/- The walk of FnTrade: it returns true, and writes nothing that was there. -/
import Derived.Test.YtlhfkidgmdojjaaDoorMkV
import Derived.Test.YtlhfkidgmdojjaaDoorDrT
import Derived.Test.YtlhfkidgmdojjaaDoorLawI
namespace Go.Proofs.YtlhfkidgmdojjaaDoor.lTr
open Go.RowKit Go.Proofs.YtlhfkidgmdojjaaDoor

set_option maxRecDepth 100000 in
set_option maxHeartbeats 10000000 in
theorem walk (w : World) (A : Option Addr) (m c : Nat) (hc : m ≤ c) (hm : m ≤ maxLen) (hA : RdB w A m) :
    Calls Tryd.prog 3 #[.slice A m c] w fun e w' => e = .returned (.bool true) ∧ Below w.heap.size w w' := by
  unfold maxLen at hm
  by_cases hs : m ≤ 1048576
  case neg =>
    go_enter Tryd.func3, Tryd.ntmps3
    go_wp2_with fail
    go_ret
    exact ⟨rfl, Below.refl _ _⟩
  have HA := Lib.hid hA; clear hA
  have hb : Below w.heap.size w w := Below.refl _ _
  go_enter Tryd.func3, Tryd.ntmps3
  go_wp2_with fail
  refine (dDrawTrade A m c w hc hs HA.out).mono ?_
  rintro e w1 ⟨xs, ys, B, C, d1, d2, rfl, hlx, hly, hFx, hFy, hoX, hoY, hbn⟩
  replace hb := seqB hb hbn
  clear hbn
  have hnx : xs.length ≤ 1048576 := by omega
  have hny : ys.length ≤ 1048576 := by omega
  go_wp2_with fail
  refine (implTr _ _ _ _ _ _ xs ys _ rfl rfl hnx hny hoX.rd hoY.rd).mono ?_
  rintro e w2 ⟨BS, cS, BT, cT, rfl, hoS, hoT, _, hbn⟩
  replace hb := seqB hb hbn
  replace hoX := hoX.below hbn
  replace hoY := hoY.below hbn
  clear hbn
  go_wp2_with fail
  refine (specTr _ _ _ _ _ _ xs ys _ rfl rfl hnx hny hoX.rd hoY.rd).mono ?_
  rintro e w3 ⟨BU, cU, BV, cV, rfl, hoU, hoV, _, hbn⟩
  replace hb := seqB hb hbn
  replace hoX := hoX.below hbn
  replace hoY := hoY.below hbn
  replace hoS := hoS.below hbn
  replace hoT := hoT.below hbn
  clear hbn
  have HK := Lib.hid (trade_law xs ys)
  obtain ⟨hl1, hl2⟩ := tradeV_len xs ys
  generalize tradeV xs ys = T at *
  obtain ⟨s, t⟩ := T
  simp only at *
  have hl1' : s.length ≤ 1048576 := by omega
  have hl2' : t.length ≤ 1048576 := by omega
  go_wp2_with fail
  refine (sameInts_same _ _ s.length _ _ s _ rfl hl1' hoS.rd hoU.rd).mono ?_
  rintro e w4 ⟨rfl, qw4, rfl⟩
  have hbn := drewB w3 qw4
  generalize w3.drewN qw4 = w4 at *
  replace hb := seqB hb hbn
  replace hoX := hoX.below hbn
  replace hoY := hoY.below hbn
  replace hoS := hoS.below hbn
  replace hoT := hoT.below hbn
  replace hoU := hoU.below hbn
  replace hoV := hoV.below hbn
  clear hbn
  go_wp2_with fail
  refine (sameInts_same _ _ t.length _ _ t _ rfl hl2' hoT.rd hoV.rd).mono ?_
  rintro e w5 ⟨rfl, qw5, rfl⟩
  have hbn := drewB w4 qw5
  generalize w4.drewN qw5 = w5 at *
  replace hb := seqB hb hbn
  replace hoX := hoX.below hbn
  replace hoY := hoY.below hbn
  replace hoS := hoS.below hbn
  replace hoT := hoT.below hbn
  replace hoU := hoU.below hbn
  replace hoV := hoV.below hbn
  clear hbn
  clear hoU hoV
  rcases HK.out with ⟨e, hv⟩ | ⟨hva, hvb, e1, e2, hA1, hB1, hAB, hsum⟩
  · obtain ⟨rfl, rfl⟩ := Prod.mk.inj e
    clear HK hl1 hl2 hl1' hl2'
    cases hva : sideB xs with
    | false =>
      go_wp2_with fail
      refine (specSdV _ _ _ xs _ rfl hnx hoX.rd).mono ?_
      rintro e w6 ⟨rfl, qw6, rfl⟩
      have hbn := drewB w5 qw6
      generalize w5.drewN qw6 = w6 at *
      replace hb := seqB hb hbn
      replace hoX := hoX.below hbn
      replace hoY := hoY.below hbn
      replace hoS := hoS.below hbn
      replace hoT := hoT.below hbn
      clear hbn
      rw [val_side, hva]
      have z1 : ((([] : List Int).length : Int) == 0) = true := rfl
      go_wp2_with fail
      refine (aliveC _).mono ?_
      rintro e w7 ⟨rfl, hbn⟩
      replace hb := seqB hb hbn
      replace hoX := hoX.below hbn
      replace hoY := hoY.below hbn
      replace hoS := hoS.below hbn
      replace hoT := hoT.below hbn
      clear hbn
      go_wp2_with fail
      go_ret
      exact ⟨ret_bool (by simp), hb⟩
    | true =>
      go_wp2_with fail
      refine (specSdV _ _ _ xs _ rfl hnx hoX.rd).mono ?_
      rintro e w6 ⟨rfl, qw6, rfl⟩
      have hbn := drewB w5 qw6
      generalize w5.drewN qw6 = w6 at *
      replace hb := seqB hb hbn
      replace hoX := hoX.below hbn
      replace hoY := hoY.below hbn
      replace hoS := hoS.below hbn
      replace hoT := hoT.below hbn
      clear hbn
      rw [val_side, hva]
      have hvb : sideB ys = false := by cases h : sideB ys with | false => rfl | true => exact absurd ⟨hva, h⟩ hv
      go_wp2_with fail
      refine (specSdV _ _ _ ys _ rfl hny hoY.rd).mono ?_
      rintro e w7 ⟨rfl, qw7, rfl⟩
      have hbn := drewB w6 qw7
      generalize w6.drewN qw7 = w7 at *
      replace hb := seqB hb hbn
      replace hoX := hoX.below hbn
      replace hoY := hoY.below hbn
      replace hoS := hoS.below hbn
      replace hoT := hoT.below hbn
      clear hbn
      rw [val_side, hvb]
      have z1 : ((([] : List Int).length : Int) == 0) = true := rfl
      go_wp2_with fail
      refine (aliveC _).mono ?_
      rintro e w8 ⟨rfl, hbn⟩
      replace hb := seqB hb hbn
      replace hoX := hoX.below hbn
      replace hoY := hoY.below hbn
      replace hoS := hoS.below hbn
      replace hoT := hoT.below hbn
      clear hbn
      go_wp2_with fail
      go_ret
      exact ⟨ret_bool (by simp), hb⟩
  · clear HK
    have HA1 := Lib.hid hA1; have HB1 := Lib.hid hB1; have HAB := Lib.hid hAB; have HSM := Lib.hid hsum; have HVA := Lib.hid hva; have HVB := Lib.hid hvb
    clear hA1 hB1 hAB hsum
    go_wp2_with fail
    refine (specSdV _ _ _ xs _ rfl hnx hoX.rd).mono ?_
    rintro e w6 ⟨rfl, qw6, rfl⟩
    have hbn := drewB w5 qw6
    generalize w5.drewN qw6 = w6 at *
    replace hb := seqB hb hbn
    replace hoX := hoX.below hbn
    replace hoY := hoY.below hbn
    replace hoS := hoS.below hbn
    replace hoT := hoT.below hbn
    clear hbn
    rw [val_side, hva]
    go_wp2_with fail
    refine (specSdV _ _ _ ys _ rfl hny hoY.rd).mono ?_
    rintro e w7 ⟨rfl, qw7, rfl⟩
    have hbn := drewB w6 qw7
    generalize w6.drewN qw7 = w7 at *
    replace hb := seqB hb hbn
    replace hoX := hoX.below hbn
    replace hoY := hoY.below hbn
    replace hoS := hoS.below hbn
    replace hoT := hoT.below hbn
    clear hbn
    rw [val_side, hvb]
    clear hva hvb
    have HXR := Lib.hid hoX.rd
    have HYR := Lib.hid hoY.rd
    have HSR := Lib.hid hoS.rd
    have HTR := Lib.hid hoT.rd
    clear hoX hoY hoS hoT
    have HE1 := Lib.hid e1; have HE2 := Lib.hid e2; clear e1 e2
    have hk1 : xs.length = s.length := HE1.out.symm
    have hk2 : ys.length = t.length := HE2.out.symm
    go_wp2_with fail
    go_loopw [9] (fun i wr => ∃ k : Nat, k ≤ xs.length ∧ i = .int .i64 k ∧ Hid (∃ q, wr = w7.drewN q)) (fun i _ => xs.length - (intOf i).toNat)
    case atStart => exact ⟨0, by omega, rfl, 0, rfl⟩
    case round =>
      obtain ⟨k, hk, rfl, HQ⟩ := hrel
      by_cases hlt : k < xs.length
      · skip
        have i1 : (k : Int) < (xs.length : Int) := by omega
        have i2 : (k : Int) < (s.length : Int) := by omega
        have h1 := HA1.out k (by omega)
        have RSsa := rdQ HSR HQ
        obtain ⟨_, _, esa, _, c_sa⟩ := rd_dAt RSsa (k := k) (by omega)
        clear RSsa
        cases esa
        generalize hqsa : dAt s k = sa at *
        have HEsa := Lib.hid hqsa; clear hqsa
        have RXx := rdQ HXR HQ
        obtain ⟨_, _, ex, _, c_x, d_x⟩ := rd_price RXx (k := k) (by omega)
        clear RXx
        cases ex
        generalize hqpx : (oAt xs k).fPrice = px at *
        generalize hqmx : (oAt xs k).fMany = mx at *
        have HEpx := Lib.hid hqpx; clear hqpx
        have HEmx := Lib.hid hqmx; clear hqmx
        have hd1 : decide (sa < 0) = false := by simp; omega
        have hd2 : decide (mx < sa) = false := by simp; omega
        go_wp2_with fail
        go_quiet (fail)
        obtain ⟨q1, hq1⟩ := HQ.out
        subst hq1
        rw [World.drewN_drewN]
        clear c_sa c_x d_x hd1 hd2 HQ
        go_wp2_with fail
        go_loopw [10] (fun i wr => ∃ k : Nat, k ≤ ys.length ∧ i = .int .i64 k ∧ Hid (∃ q, wr = w7.drewN q)) (fun i _ => ys.length - (intOf i).toNat)
        case atStart => exact ⟨0, by omega, rfl, _, rfl⟩
        case round =>
          obtain ⟨j, hj, rfl, HQ⟩ := hrel
          by_cases hlt2 : j < ys.length
          · skip
            have i3 : (j : Int) < (ys.length : Int) := by omega
            have i4 : (j : Int) < (t.length : Int) := by omega
            have h2 := HAB.out k j (by omega) (by omega)
            have RSsa := rdQ HSR HQ
            obtain ⟨_, _, esa, _, c_sa⟩ := rd_dAt RSsa (k := k) (by omega)
            clear RSsa
            cases esa
            rw [HEsa.out] at c_sa
            have RXx := rdQ HXR HQ
            obtain ⟨_, _, ex, _, c_x, d_x⟩ := rd_price RXx (k := k) (by omega)
            clear RXx
            cases ex
            rw [HEpx.out] at c_x
            rw [HEmx.out] at d_x
            have RTtb := rdQ HTR HQ
            obtain ⟨_, _, etb, _, c_tb⟩ := rd_dAt RTtb (k := j) (by omega)
            clear RTtb
            cases etb
            generalize hqtb : dAt t j = tb at *
            have HEtb := Lib.hid hqtb; clear hqtb
            have RYy := rdQ HYR HQ
            obtain ⟨_, _, ey, _, c_y, d_y⟩ := rd_price RYy (k := j) (by omega)
            clear RYy
            cases ey
            generalize hqpy : (oAt ys j).fPrice = py at *
            generalize hqmy : (oAt ys j).fMany = my at *
            have HEpy := Lib.hid hqpy; clear hqpy
            have HEmy := Lib.hid hqmy; clear hqmy
            rw [HEsa.out, HEmx.out, HEpx.out] at h2
            by_cases g1 : sa < mx
            case neg =>
              have f1 : decide (sa < mx) = false := by simp; omega
              go_wp2_with fail
              go_quiet (fail)
              go_wp2_with fail
              go_roundw
              case rel => exact ⟨j + 1, by omega, by go_num, drewN_more HQ⟩
              case measure => simp [intOf]; omega
            by_cases g2 : tb < my
            case neg =>
              have f2 : decide (tb < my) = false := by simp; omega
              go_wp2_with fail
              go_quiet (fail)
              go_wp2_with fail
              go_roundw
              case rel => exact ⟨j + 1, by omega, by go_num, drewN_more HQ⟩
              case measure => simp [intOf]; omega
            have g3 := h2 g1 g2
            have f3 : decide (px ≤ py) = false := by simp; omega
            go_wp2_with fail
            go_quiet (fail)
            go_wp2_with fail
            go_roundw
            case rel => exact ⟨j + 1, by omega, by go_num, drewN_more HQ⟩
            case measure => simp [intOf]; omega
          · skip
            go_wp2_with fail
            go_roundw
            case rel => exact ⟨k + 1, by omega, by go_num, HQ⟩
            case measure => simp [intOf]; omega
      · skip
        obtain ⟨q0, rfl⟩ := HQ.out
        clear HQ
        replace HXR : Hid (Rd (w7.drewN q0) _ _) := Lib.hid (HXR.out.drewN q0)
        replace HYR : Hid (Rd (w7.drewN q0) _ _) := Lib.hid (HYR.out.drewN q0)
        replace HSR : Hid (Rd (w7.drewN q0) _ _) := Lib.hid (HSR.out.drewN q0)
        replace HTR : Hid (Rd (w7.drewN q0) _ _) := Lib.hid (HTR.out.drewN q0)
        replace hb := drewNB hb q0
        generalize w7.drewN q0 = wc at *
        go_wp2_with fail
        go_loopw [11] (fun i wr => ∃ k : Nat, k ≤ ys.length ∧ i = .int .i64 k ∧ Hid (∃ q, wr = wc.drewN q)) (fun i _ => ys.length - (intOf i).toNat)
        case atStart => exact ⟨0, by omega, rfl, 0, rfl⟩
        case round =>
          obtain ⟨j, hj, rfl, HQ⟩ := hrel
          by_cases hlt2 : j < ys.length
          · skip
            have i3 : (j : Int) < (ys.length : Int) := by omega
            have i4 : (j : Int) < (t.length : Int) := by omega
            have h1 := HB1.out j (by omega)
            have RTtb := rdQ HTR HQ
            obtain ⟨_, _, etb, _, c_tb⟩ := rd_dAt RTtb (k := j) (by omega)
            clear RTtb
            cases etb
            generalize hqtb : dAt t j = tb at *
            have HEtb := Lib.hid hqtb; clear hqtb
            have RYy := rdQ HYR HQ
            obtain ⟨_, _, ey, _, c_y, d_y⟩ := rd_price RYy (k := j) (by omega)
            clear RYy
            cases ey
            generalize hqpy : (oAt ys j).fPrice = py at *
            generalize hqmy : (oAt ys j).fMany = my at *
            have HEpy := Lib.hid hqpy; clear hqpy
            have HEmy := Lib.hid hqmy; clear hqmy
            have hd1 : decide (tb < 0) = false := by simp; omega
            have hd2 : decide (my < tb) = false := by simp; omega
            go_wp2_with fail
            go_quiet (fail)
            go_wp2_with fail
            go_roundw
            case rel => exact ⟨j + 1, by omega, by go_num, drewN_more HQ⟩
            case measure => simp [intOf]; omega
          · skip
            have RS := rdQ HSR HQ
            have RT := rdQ HTR HQ
            go_wp2_with fail
            refine (sumOf_eq _ _ _ s t.sum HSM.out _ rfl (by omega) RS (done_small HVA.out HE1.out HA1.out)).mono ?_
            rintro e w' ⟨rfl, rfl⟩
            go_wp2_with fail
            refine (sumOf_any _ _ _ t _ rfl (by omega) RT (done_small HVB.out HE2.out HB1.out)).mono ?_
            rintro e w' ⟨rfl, rfl⟩
            go_wp2_with fail
            go_ret
            obtain ⟨q, rfl⟩ := HQ.out
            exact ⟨ret_bool (by simp), drewNB hb q⟩
end Go.Proofs.YtlhfkidgmdojjaaDoor.lTr
