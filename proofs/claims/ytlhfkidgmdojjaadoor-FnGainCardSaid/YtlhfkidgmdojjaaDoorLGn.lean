/- The walk of FnGain: it returns true, and writes nothing that was there. -/
import Derived.Test.YtlhfkidgmdojjaaDoorMkV
import Derived.Test.YtlhfkidgmdojjaaDoorDrT
import Derived.Test.YtlhfkidgmdojjaaDoorLawI
import Derived.Test.YtlhfkidgmdojjaaDoorCmp
import Derived.IntWalk
namespace Go.Proofs.YtlhfkidgmdojjaaDoor.lGn
open Go.RowKit Go.Proofs.YtlhfkidgmdojjaaDoor

set_option maxRecDepth 100000 in
set_option maxHeartbeats 10000000 in
theorem walk (w : World) (A : Option Addr) (m c : Nat) (hc : m ≤ c) (hm : m ≤ maxLen) (hA : RdB w A m) :
    Calls Tryd.prog 6 #[.slice A m c] w fun e w' => e = .returned (.bool true) ∧ Below w.heap.size w w' := by
  unfold maxLen at hm
  by_cases hs : m ≤ 1048576
  case neg =>
    go_enter Tryd.func6, Tryd.ntmps6
    go_wp2_with fail
    go_ret
    exact ⟨rfl, Below.refl _ _⟩
  have HA := Lib.hid hA; clear hA
  have hb : Below w.heap.size w w := Below.refl _ _
  go_enter Tryd.func6, Tryd.ntmps6
  go_wp2_with fail
  refine (dDrawGain A m c w hc hs HA.out).mono ?_
  rintro e w1 ⟨xs, ys, B, C, d1, d2, rfl, hlx, hly, hFx, hFy, hoX, hoY, hbn⟩
  replace hb := seqB hb hbn
  clear hbn
  have hnx : xs.length ≤ 1048576 := by omega
  have hny : ys.length ≤ 1048576 := by omega
  go_wp2_with fail
  refine (implGn _ _ _ _ _ _ xs ys _ rfl rfl hnx hny hoX.rd hoY.rd).mono ?_
  rintro e w2 ⟨rfl, hbn⟩
  replace hb := seqB hb hbn
  replace hoX := hoX.below hbn
  replace hoY := hoY.below hbn
  clear hbn
  have HK := Lib.hid (gain_law xs ys)
  generalize hV : gainV xs ys = V at *
  have HV := Lib.hid hV; clear hV
  have hne : (V != V) = false := by simp
  go_wp2_with fail
  refine (specGn _ _ _ _ _ _ xs ys _ rfl rfl hnx hny hoX.rd hoY.rd).mono ?_
  rintro e w3 ⟨rfl, hbn⟩
  replace hb := seqB hb hbn
  replace hoX := hoX.below hbn
  replace hoY := hoY.below hbn
  clear hbn
  rw [HV.out]
  rcases HK.out with hx | ⟨hV0, hva, hvb, e1, e2, hAB, hBA⟩
  · clear HK HV
    subst hx
    go_wp2_with fail
    refine (aliveC _).mono ?_
    rintro e w4 ⟨rfl, hbn⟩
    replace hb := seqB hb hbn
    replace hoX := hoX.below hbn
    replace hoY := hoY.below hbn
    clear hbn
    go_wp2_with fail
    go_ret
    exact ⟨ret_bool (by simp), hb⟩
  · clear HK HV
    have HAB := Lib.hid hAB; have HBA := Lib.hid hBA; have HVA := Lib.hid hva; have HVB := Lib.hid hvb
    clear hAB hBA hva hvb
    have hlt0 : ¬ V < 0 := by omega
    go_wp2_with fail
    refine (implTr _ _ _ _ _ _ xs ys _ rfl rfl hnx hny hoX.rd hoY.rd).mono ?_
    rintro e w4 ⟨BS, cS, BT, cT, rfl, hoS, hoT, _, hbn⟩
    replace hb := seqB hb hbn
    replace hoX := hoX.below hbn
    replace hoY := hoY.below hbn
    clear hbn
    generalize tradeV xs ys = T at *
    obtain ⟨s, t⟩ := T
    simp only at *
    have n1 : ((s.length : Int) != (xs.length : Int)) = false := by rw [e1]; simp
    have n2 : ((t.length : Int) != (ys.length : Int)) = false := by rw [e2]; simp
    have HXR := Lib.hid hoX.rd
    have HYR := Lib.hid hoY.rd
    have HSR := Lib.hid hoS.rd
    have HTR := Lib.hid hoT.rd
    clear hoX hoY hoS hoT
    have HE1 := Lib.hid e1; have HE2 := Lib.hid e2; clear e1 e2
    have hk1a : xs.length ≤ s.length := Nat.le_of_eq HE1.out.symm
    have hk1b : s.length ≤ xs.length := Nat.le_of_eq HE1.out
    have hk2a : ys.length ≤ t.length := Nat.le_of_eq HE2.out.symm
    have hk2b : t.length ≤ ys.length := Nat.le_of_eq HE2.out
    have h6x := side_len HVA.out
    have h6y := side_len HVB.out
    go_wp2_with fail
    go_loopw [8] (fun i wr => ∃ k : Nat, k ≤ xs.length ∧ i = .int .i64 k ∧ Hid (∃ q, wr = w4.drewN q)) (fun i _ => xs.length - (intOf i).toNat)
    case atStart => exact ⟨0, by omega, rfl, 0, rfl⟩
    case round =>
      obtain ⟨k, hk, rfl, HQ⟩ := hrel
      by_cases hlt : k < xs.length
      · skip
        have i1 : (k : Int) < (xs.length : Int) := by omega
        have i2 : (k : Int) < (s.length : Int) := by omega
        go_wp2_with fail
        go_loopw [9] (fun i wr => ∃ k : Nat, k ≤ ys.length ∧ i = .int .i64 k ∧ Hid (∃ q, wr = w4.drewN q)) (fun i _ => ys.length - (intOf i).toNat)
        case atStart => exact ⟨0, by omega, rfl, HQ.out⟩
        case round =>
          clear HQ
          obtain ⟨j, hj, rfl, HQ⟩ := hrel
          by_cases hlt2 : j < ys.length
          · skip
            have i3 : (j : Int) < (ys.length : Int) := by omega
            have i4 : (j : Int) < (t.length : Int) := by omega
            have h2 := HAB.out k j (by omega) (by omega)
            have h3 := HBA.out k j (by omega) (by omega)
            have b1 := side_at HVA.out (k := k) (by omega)
            have b2 := side_at HVB.out (k := j) (by omega)
            have RSsa := rdQ HSR HQ
            obtain ⟨_, _, esa, _, c_sa⟩ := rd_dAt RSsa (k := k) (by omega)
            clear RSsa
            cases esa
            generalize hqsa : dAt s k = sa at *
            have HEsa := Lib.hid hqsa; clear hqsa
            have RXx := rdQ HXR HQ
            obtain ⟨_, _, ex, _, c_x, d_x⟩ := rd_price RXx (k := k) (by omega)
            clear RXx
            cases ex
            generalize hqpx : (oAt xs k).fPrice = px at *
            generalize hqmx : (oAt xs k).fMany = mx at *
            have HEpx := Lib.hid hqpx; clear hqpx
            have HEmx := Lib.hid hqmx; clear hqmx
            have RTtb := rdQ HTR HQ
            obtain ⟨_, _, etb, _, c_tb⟩ := rd_dAt RTtb (k := j) (by omega)
            clear RTtb
            cases etb
            generalize hqtb : dAt t j = tb at *
            have HEtb := Lib.hid hqtb; clear hqtb
            have RYy := rdQ HYR HQ
            obtain ⟨_, _, ey, _, c_y, d_y⟩ := rd_price RYy (k := j) (by omega)
            clear RYy
            cases ey
            generalize hqpy : (oAt ys j).fPrice = py at *
            generalize hqmy : (oAt ys j).fMany = my at *
            have HEpy := Lib.hid hqpy; clear hqpy
            have HEmy := Lib.hid hqmy; clear hqmy
            go_wp2_with fail
            have wr1 : IntKind.i64.wrap (py - px) = py - px := IntWalk.i64_in _ (by omega)
            go_quiet (fail)
            clear wr1
            replace c_sa : (wr.drewN nq).cell? _ = _ := c_sa
            replace c_x : (wr.drewN nq).cell? _ = _ := c_x
            replace d_x : (wr.drewN nq).cell? _ = _ := d_x
            replace c_tb : (wr.drewN nq).cell? _ = _ := c_tb
            replace c_y : (wr.drewN nq).cell? _ = _ := c_y
            replace d_y : (wr.drewN nq).cell? _ = _ := d_y
            replace HQ := Lib.hid (drewN_more (n := nq) HQ)
            generalize wr.drewN nq = wv at *
            generalize hdd : py - px = d at *
            by_cases g1 : sa < mx
            case neg =>
              have f1 : decide (sa < mx) = false := by simp; omega
              by_cases g4 : 0 < sa
              case neg =>
                have f4 : decide (0 < sa) = false := by simp; omega
                clear h2 h3 b1 b2
                go_wp2_with fail
                go_quiet (fail)
                go_wp2_with fail
                go_roundw
                case rel => exact ⟨j + 1, by omega, by go_num, drewN_more HQ⟩
                case measure => simp [intOf]; omega
              by_cases g5 : 0 < tb
              case neg =>
                have f5 : decide (0 < tb) = false := by simp; omega
                clear h2 h3 b1 b2
                go_wp2_with fail
                go_quiet (fail)
                go_wp2_with fail
                go_roundw
                case rel => exact ⟨j + 1, by omega, by go_num, drewN_more HQ⟩
                case measure => simp [intOf]; omega
              have g6 := h3 g4 g5
              have f6 : decide (d < 0) = false := by simp; omega
              clear h2 h3 b1 b2
              go_wp2_with fail
              go_quiet (fail)
              go_wp2_with fail
              go_roundw
              case rel => exact ⟨j + 1, by omega, by go_num, drewN_more HQ⟩
              case measure => simp [intOf]; omega
            by_cases g2 : tb < my
            case neg =>
              have f2 : decide (tb < my) = false := by simp; omega
              by_cases g4 : 0 < sa
              case neg =>
                have f4 : decide (0 < sa) = false := by simp; omega
                clear h2 h3 b1 b2
                go_wp2_with fail
                go_quiet (fail)
                go_wp2_with fail
                go_roundw
                case rel => exact ⟨j + 1, by omega, by go_num, drewN_more HQ⟩
                case measure => simp [intOf]; omega
              by_cases g5 : 0 < tb
              case neg =>
                have f5 : decide (0 < tb) = false := by simp; omega
                clear h2 h3 b1 b2
                go_wp2_with fail
                go_quiet (fail)
                go_wp2_with fail
                go_roundw
                case rel => exact ⟨j + 1, by omega, by go_num, drewN_more HQ⟩
                case measure => simp [intOf]; omega
              have g6 := h3 g4 g5
              have f6 : decide (d < 0) = false := by simp; omega
              clear h2 h3 b1 b2
              go_wp2_with fail
              go_quiet (fail)
              go_wp2_with fail
              go_roundw
              case rel => exact ⟨j + 1, by omega, by go_num, drewN_more HQ⟩
              case measure => simp [intOf]; omega
            have g3 := h2 g1 g2
            have f3 : decide (0 < d) = false := by simp; omega
            by_cases g4 : 0 < sa
            case neg =>
              have f4 : decide (0 < sa) = false := by simp; omega
              clear h2 h3 b1 b2
              go_wp2_with fail
              go_quiet (fail)
              go_wp2_with fail
              go_roundw
              case rel => exact ⟨j + 1, by omega, by go_num, drewN_more HQ⟩
              case measure => simp [intOf]; omega
            by_cases g5 : 0 < tb
            case neg =>
              have f5 : decide (0 < tb) = false := by simp; omega
              clear h2 h3 b1 b2
              go_wp2_with fail
              go_quiet (fail)
              go_wp2_with fail
              go_roundw
              case rel => exact ⟨j + 1, by omega, by go_num, drewN_more HQ⟩
              case measure => simp [intOf]; omega
            have g6 := h3 g4 g5
            have f6 : decide (d < 0) = false := by simp; omega
            clear h2 h3 b1 b2
            go_wp2_with fail
            go_quiet (fail)
            go_wp2_with fail
            go_roundw
            case rel => exact ⟨j + 1, by omega, by go_num, drewN_more HQ⟩
            case measure => simp [intOf]; omega
          · skip
            go_wp2_with fail
            go_roundw
            case rel => exact ⟨k + 1, by omega, by go_num, HQ⟩
            case measure => simp [intOf]; omega
      · skip
        go_wp2_with fail
        go_ret
        obtain ⟨q, rfl⟩ := HQ.out
        exact ⟨rfl, drewNB hb q⟩
end Go.Proofs.YtlhfkidgmdojjaaDoor.lGn
