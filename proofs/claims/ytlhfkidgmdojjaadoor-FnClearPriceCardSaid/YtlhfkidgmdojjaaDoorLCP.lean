/- The walk of FnClearPrice: it returns true, and writes nothing that was there. -/
import Derived.Test.YtlhfkidgmdojjaaDoorMkV
import Derived.Test.YtlhfkidgmdojjaaDoorDrT
import Derived.Test.YtlhfkidgmdojjaaDoorLawI
namespace Go.Proofs.YtlhfkidgmdojjaaDoor.lCP
open Go.RowKit Go.Proofs.YtlhfkidgmdojjaaDoor

set_option maxRecDepth 100000 in
set_option maxHeartbeats 10000000 in
theorem walk (w : World) (A : Option Addr) (m c : Nat) (hc : m ≤ c) (hm : m ≤ maxLen) (hA : RdB w A m) :
    Calls Tryd.prog 5 #[.slice A m c] w fun e w' => e = .returned (.bool true) ∧ Below w.heap.size w w' := by
  unfold maxLen at hm
  by_cases hs : m ≤ 1048576
  case neg =>
    go_enter Tryd.func5, Tryd.ntmps5
    go_wp2_with fail
    go_ret
    exact ⟨rfl, Below.refl _ _⟩
  have HA := Lib.hid hA; clear hA
  have hb : Below w.heap.size w w := Below.refl _ _
  go_enter Tryd.func5, Tryd.ntmps5
  go_wp2_with fail
  refine (dDrawClearPrice A m c w hc hs HA.out).mono ?_
  rintro e w1 ⟨xs, ys, B, C, d1, d2, rfl, hlx, hly, hFx, hFy, hoX, hoY, hbn⟩
  replace hb := seqB hb hbn
  clear hbn
  have hnx : xs.length ≤ 1048576 := by omega
  have hny : ys.length ≤ 1048576 := by omega
  go_wp2_with fail
  refine (implCP _ _ _ _ _ _ xs ys _ rfl rfl hnx hny hoX.rd hoY.rd).mono ?_
  rintro e w2 ⟨rfl, hbn⟩
  replace hb := seqB hb hbn
  replace hoX := hoX.below hbn
  replace hoY := hoY.below hbn
  clear hbn
  have HK := Lib.hid (price_law xs ys)
  have HT := Lib.hid (trade_law xs ys)
  generalize hV : priceV xs ys = V at *
  have HV := Lib.hid hV; clear hV
  have hne : (V != V) = false := by simp
  go_wp2_with fail
  refine (specCP _ _ _ _ _ _ xs ys _ rfl rfl hnx hny hoX.rd hoY.rd).mono ?_
  rintro e w3 ⟨rfl, hbn⟩
  replace hb := seqB hb hbn
  replace hoX := hoX.below hbn
  replace hoY := hoY.below hbn
  clear hbn
  rw [HV.out]
  go_wp2_with fail
  refine (implTr _ _ _ _ _ _ xs ys _ rfl rfl hnx hny hoX.rd hoY.rd).mono ?_
  rintro e w4 ⟨BS, cS, BT, cT, rfl, hoS, hoT, _, hbn⟩
  replace hb := seqB hb hbn
  replace hoX := hoX.below hbn
  replace hoY := hoY.below hbn
  clear hbn
  obtain ⟨hl1, hl2⟩ := tradeV_len xs ys
  have HSM : Hid (∀ j, j < (tradeV xs ys).1.length → -1000000 ≤ (tradeV xs ys).1.getD j 0 ∧ (tradeV xs ys).1.getD j 0 ≤ 1000000) := by
    rcases HT.out with ⟨e, _⟩ | ⟨hva, _, e1, _, hA1, _⟩
    · rw [Hid, e]; intro j hj; simp at hj
    · exact done_small hva e1 hA1
  clear HT
  generalize tradeV xs ys = T at *
  obtain ⟨s, t⟩ := T
  simp only at *
  rcases HK.out with ⟨hx, hs0⟩ | ⟨hV0, hva, hvb, e1, e2, hA1, hB1, hAB⟩
  · clear HK HV
    subst hx
    have HS0 := Lib.hid hs0; clear hs0
    go_wp2_with fail
    refine (sumOf_eq _ _ _ s 0 HS0.out _ rfl (by omega) hoS.rd HSM.out).mono ?_
    rintro e w' ⟨rfl, rfl⟩
    go_wp2_with fail
    refine (aliveC _).mono ?_
    rintro e w5 ⟨rfl, hbn⟩
    replace hb := seqB hb hbn
    replace hoX := hoX.below hbn
    replace hoY := hoY.below hbn
    replace hoS := hoS.below hbn
    replace hoT := hoT.below hbn
    clear hbn
    go_wp2_with fail
    go_ret
    exact ⟨ret_bool (by simp), hb⟩
  · clear HK HV HSM
    have HA1 := Lib.hid hA1; have HB1 := Lib.hid hB1; have HAB := Lib.hid hAB
    clear hA1 hB1 hAB hva hvb
    have hlt0 : ¬ V < 0 := by omega
    have n1 : ((s.length : Int) != (xs.length : Int)) = false := by rw [e1]; simp
    have n2 : ((t.length : Int) != (ys.length : Int)) = false := by rw [e2]; simp
    have HXR := Lib.hid hoX.rd
    have HYR := Lib.hid hoY.rd
    have HSR := Lib.hid hoS.rd
    have HTR := Lib.hid hoT.rd
    clear hoX hoY hoS hoT
    have HE1 := Lib.hid e1; have HE2 := Lib.hid e2; clear e1 e2
    have hk1a : xs.length ≤ s.length := Nat.le_of_eq HE1.out.symm
    have hk1b : s.length ≤ xs.length := Nat.le_of_eq HE1.out
    have hk2a : ys.length ≤ t.length := Nat.le_of_eq HE2.out.symm
    have hk2b : t.length ≤ ys.length := Nat.le_of_eq HE2.out
    go_wp2_with fail
    go_loopw [8] (fun i wr => ∃ k : Nat, k ≤ xs.length ∧ i = .int .i64 k ∧ Hid (∃ q, wr = w4.drewN q)) (fun i _ => xs.length - (intOf i).toNat)
    case atStart => exact ⟨0, by omega, rfl, 0, rfl⟩
    case round =>
      obtain ⟨k, hk, rfl, HQ⟩ := hrel
      by_cases hlt : k < xs.length
      · skip
        have i1 : (k : Int) < (xs.length : Int) := by omega
        have i2 : (k : Int) < (s.length : Int) := by omega
        obtain ⟨h1, h2⟩ := HA1.out k (by omega)
        have RSsa := rdQ HSR HQ
        obtain ⟨_, _, esa, _, c_sa⟩ := rd_dAt RSsa (k := k) (by omega)
        clear RSsa
        cases esa
        generalize hqsa : dAt s k = sa at *
        have HEsa := Lib.hid hqsa; clear hqsa
        have RXx := rdQ HXR HQ
        obtain ⟨_, _, ex, _, c_x, d_x⟩ := rd_price RXx (k := k) (by omega)
        clear RXx
        cases ex
        generalize hqpx : (oAt xs k).fPrice = px at *
        generalize hqmx : (oAt xs k).fMany = mx at *
        have HEpx := Lib.hid hqpx; clear hqpx
        have HEmx := Lib.hid hqmx; clear hqmx
        by_cases g1 : 0 < sa
        case neg =>
          have f1 : decide (0 < sa) = false := by simp; omega
          by_cases g2 : px < V
          case neg =>
            have f2 : decide (px < V) = false := by simp; omega
            go_wp2_with fail
            go_quiet (fail)
            go_wp2_with fail
            go_roundw
            case rel => exact ⟨k + 1, by omega, by go_num, drewN_more HQ⟩
            case measure => simp [intOf]; omega
          have g3 := h2 g2
          have f3 : decide (sa < mx) = false := by simp; omega
          go_wp2_with fail
          go_quiet (fail)
          go_wp2_with fail
          go_roundw
          case rel => exact ⟨k + 1, by omega, by go_num, drewN_more HQ⟩
          case measure => simp [intOf]; omega
        have g0 := h1 g1
        have f0 : decide (V < px) = false := by simp; omega
        by_cases g2 : px < V
        case neg =>
          have f2 : decide (px < V) = false := by simp; omega
          go_wp2_with fail
          go_quiet (fail)
          go_wp2_with fail
          go_roundw
          case rel => exact ⟨k + 1, by omega, by go_num, drewN_more HQ⟩
          case measure => simp [intOf]; omega
        have g3 := h2 g2
        have f3 : decide (sa < mx) = false := by simp; omega
        go_wp2_with fail
        go_quiet (fail)
        go_wp2_with fail
        go_roundw
        case rel => exact ⟨k + 1, by omega, by go_num, drewN_more HQ⟩
        case measure => simp [intOf]; omega
      · skip
        obtain ⟨q0, rfl⟩ := HQ.out
        clear HQ
        replace HXR : Hid (Rd (w4.drewN q0) _ _) := Lib.hid (HXR.out.drewN q0)
        replace HYR : Hid (Rd (w4.drewN q0) _ _) := Lib.hid (HYR.out.drewN q0)
        replace HSR : Hid (Rd (w4.drewN q0) _ _) := Lib.hid (HSR.out.drewN q0)
        replace HTR : Hid (Rd (w4.drewN q0) _ _) := Lib.hid (HTR.out.drewN q0)
        replace hb := drewNB hb q0
        generalize w4.drewN q0 = wc at *
        go_wp2_with fail
        go_loopw [9] (fun i wr => ∃ k : Nat, k ≤ ys.length ∧ i = .int .i64 k ∧ Hid (∃ q, wr = wc.drewN q)) (fun i _ => ys.length - (intOf i).toNat)
        case atStart => exact ⟨0, by omega, rfl, 0, rfl⟩
        case round =>
          obtain ⟨j, hj, rfl, HQ⟩ := hrel
          by_cases hlt2 : j < ys.length
          · skip
            have i3 : (j : Int) < (ys.length : Int) := by omega
            have i4 : (j : Int) < (t.length : Int) := by omega
            have h1 := HB1.out j (by omega)
            have RTtb := rdQ HTR HQ
            obtain ⟨_, _, etb, _, c_tb⟩ := rd_dAt RTtb (k := j) (by omega)
            clear RTtb
            cases etb
            generalize hqtb : dAt t j = tb at *
            have HEtb := Lib.hid hqtb; clear hqtb
            have RYy := rdQ HYR HQ
            obtain ⟨_, _, ey, _, c_y, d_y⟩ := rd_price RYy (k := j) (by omega)
            clear RYy
            cases ey
            generalize hqpy : (oAt ys j).fPrice = py at *
            generalize hqmy : (oAt ys j).fMany = my at *
            have HEpy := Lib.hid hqpy; clear hqpy
            have HEmy := Lib.hid hqmy; clear hqmy
            by_cases g0 : 0 < tb
            case neg =>
              have f0 : decide (0 < tb) = false := by simp; omega
              go_wp2_with fail
              obtain ⟨q1, hq1⟩ := HQ.out
              subst hq1
              clear c_tb c_y d_y HQ
              go_loopw [10] (fun i wr => ∃ k : Nat, k ≤ xs.length ∧ i = .int .i64 k ∧ Hid (∃ q, wr = wc.drewN q)) (fun i _ => xs.length - (intOf i).toNat)
              case atStart => exact ⟨0, by omega, rfl, _, rfl⟩
              case round =>
                obtain ⟨k, hk, rfl, HQ⟩ := hrel
                by_cases hlt : k < xs.length
                · skip
                  have i1 : (k : Int) < (xs.length : Int) := by omega
                  have i2 : (k : Int) < (s.length : Int) := by omega
                  have h2 := HAB.out k j (by omega) (by omega)
                  have RSsa := rdQ HSR HQ
                  obtain ⟨_, _, esa, _, c_sa⟩ := rd_dAt RSsa (k := k) (by omega)
                  clear RSsa
                  cases esa
                  generalize hqsa : dAt s k = sa at *
                  have HEsa := Lib.hid hqsa; clear hqsa
                  have RXx := rdQ HXR HQ
                  obtain ⟨_, _, ex, _, c_x, d_x⟩ := rd_price RXx (k := k) (by omega)
                  clear RXx
                  cases ex
                  generalize hqpx : (oAt xs k).fPrice = px at *
                  generalize hqmx : (oAt xs k).fMany = mx at *
                  have HEpx := Lib.hid hqpx; clear hqpx
                  have HEmx := Lib.hid hqmx; clear hqmx
                  have RTtb := rdQ HTR HQ
                  obtain ⟨_, _, etb, _, c_tb⟩ := rd_dAt RTtb (k := j) (by omega)
                  clear RTtb
                  cases etb
                  rw [HEtb.out] at c_tb
                  have RYy := rdQ HYR HQ
                  obtain ⟨_, _, ey, _, c_y, d_y⟩ := rd_price RYy (k := j) (by omega)
                  clear RYy
                  cases ey
                  rw [HEpy.out] at c_y
                  rw [HEmy.out] at d_y
                  rw [HEtb.out, HEmy.out, HEpy.out] at h2
                  by_cases g1 : tb < my
                  case neg =>
                    have f1 : decide (tb < my) = false := by simp; omega
                    go_wp2_with fail
                    go_quiet (fail)
                    go_wp2_with fail
                    go_roundw
                    case rel => exact ⟨k + 1, by omega, by go_num, drewN_more HQ⟩
                    case measure => simp [intOf]; omega
                  by_cases g2 : sa < mx
                  case neg =>
                    have f2 : decide (sa < mx) = false := by simp; omega
                    go_wp2_with fail
                    go_quiet (fail)
                    go_wp2_with fail
                    go_roundw
                    case rel => exact ⟨k + 1, by omega, by go_num, drewN_more HQ⟩
                    case measure => simp [intOf]; omega
                  have g3 := h2 g2 g1
                  have f3 : decide (px ≤ py) = false := by simp; omega
                  go_wp2_with fail
                  go_quiet (fail)
                  go_wp2_with fail
                  go_roundw
                  case rel => exact ⟨k + 1, by omega, by go_num, drewN_more HQ⟩
                  case measure => simp [intOf]; omega
                · skip
                  go_wp2_with fail
                  go_roundw
                  case rel => exact ⟨j + 1, by omega, by go_num, HQ⟩
                  case measure => simp [intOf]; omega
            have g9 := h1 g0
            have f9 : decide (py < V) = false := by simp; omega
            go_wp2_with fail
            obtain ⟨q1, hq1⟩ := HQ.out
            subst hq1
            clear c_tb c_y d_y HQ
            go_loopw [10] (fun i wr => ∃ k : Nat, k ≤ xs.length ∧ i = .int .i64 k ∧ Hid (∃ q, wr = wc.drewN q)) (fun i _ => xs.length - (intOf i).toNat)
            case atStart => exact ⟨0, by omega, rfl, _, rfl⟩
            case round =>
              obtain ⟨k, hk, rfl, HQ⟩ := hrel
              by_cases hlt : k < xs.length
              · skip
                have i1 : (k : Int) < (xs.length : Int) := by omega
                have i2 : (k : Int) < (s.length : Int) := by omega
                have h2 := HAB.out k j (by omega) (by omega)
                have RSsa := rdQ HSR HQ
                obtain ⟨_, _, esa, _, c_sa⟩ := rd_dAt RSsa (k := k) (by omega)
                clear RSsa
                cases esa
                generalize hqsa : dAt s k = sa at *
                have HEsa := Lib.hid hqsa; clear hqsa
                have RXx := rdQ HXR HQ
                obtain ⟨_, _, ex, _, c_x, d_x⟩ := rd_price RXx (k := k) (by omega)
                clear RXx
                cases ex
                generalize hqpx : (oAt xs k).fPrice = px at *
                generalize hqmx : (oAt xs k).fMany = mx at *
                have HEpx := Lib.hid hqpx; clear hqpx
                have HEmx := Lib.hid hqmx; clear hqmx
                have RTtb := rdQ HTR HQ
                obtain ⟨_, _, etb, _, c_tb⟩ := rd_dAt RTtb (k := j) (by omega)
                clear RTtb
                cases etb
                rw [HEtb.out] at c_tb
                have RYy := rdQ HYR HQ
                obtain ⟨_, _, ey, _, c_y, d_y⟩ := rd_price RYy (k := j) (by omega)
                clear RYy
                cases ey
                rw [HEpy.out] at c_y
                rw [HEmy.out] at d_y
                rw [HEtb.out, HEmy.out, HEpy.out] at h2
                by_cases g1 : tb < my
                case neg =>
                  have f1 : decide (tb < my) = false := by simp; omega
                  go_wp2_with fail
                  go_quiet (fail)
                  go_wp2_with fail
                  go_roundw
                  case rel => exact ⟨k + 1, by omega, by go_num, drewN_more HQ⟩
                  case measure => simp [intOf]; omega
                by_cases g2 : sa < mx
                case neg =>
                  have f2 : decide (sa < mx) = false := by simp; omega
                  go_wp2_with fail
                  go_quiet (fail)
                  go_wp2_with fail
                  go_roundw
                  case rel => exact ⟨k + 1, by omega, by go_num, drewN_more HQ⟩
                  case measure => simp [intOf]; omega
                have g3 := h2 g2 g1
                have f3 : decide (px ≤ py) = false := by simp; omega
                go_wp2_with fail
                go_quiet (fail)
                go_wp2_with fail
                go_roundw
                case rel => exact ⟨k + 1, by omega, by go_num, drewN_more HQ⟩
                case measure => simp [intOf]; omega
              · skip
                go_wp2_with fail
                go_roundw
                case rel => exact ⟨j + 1, by omega, by go_num, HQ⟩
                case measure => simp [intOf]; omega
          · skip
            go_wp2_with fail
            go_ret
            obtain ⟨q, rfl⟩ := HQ.out
            exact ⟨rfl, drewNB hb q⟩
end Go.Proofs.YtlhfkidgmdojjaaDoor.lCP
