/- The walk of FnWorstGap: it returns true, and writes nothing that was there. -/
import Derived.Test.YtanogghchmjkgaaDoorSmR
import Derived.Test.YtanogghchmjkgaaDoorSmpL
namespace Go.Proofs.YtanogghchmjkgaaDoor.lWG
open Go.RowKit Go.Proofs.YtanogghchmjkgaaDoor

set_option maxHeartbeats 2000000 in
theorem walk (w : World) (A : Option Addr) (m c : Nat) (hc : m ≤ c) (hm : m ≤ maxLen) (hA : RdB w A m) :
    Calls Tryd.prog 7 #[.slice A m c] w fun e w' => e = .returned (.bool true) ∧ Below w.heap.size w w' := by
  unfold maxLen at hm
  by_cases hs : m ≤ 1048576
  case neg =>
    go_enter Tryd.func7, Tryd.ntmps7
    go_wp2_with fail
    go_ret
    exact ⟨rfl, Below.refl _ _⟩
  have HA := Lib.hid hA; clear hA
  have hb : Below w.heap.size w w := Below.refl _ _
  go_enter Tryd.func7, Tryd.ntmps7
  go_wp2_with fail
  refine (dDrawWorstGap A m c w hc hs HA.out).mono ?_
  rintro e w1 ⟨xs, l, B, C, d, d', rfl, hlx, hll, ho, hoC, hbn⟩
  replace hb := seqB hb hbn
  clear hbn
  have hn : xs.length ≤ 1048576 := by omega
  go_wp2_with fail
  refine (implWG _ _ _ xs _ _ _ l _ rfl hn ho.rd rfl hll hoC.rd).mono ?_
  rintro e w2 ⟨rfl, hbn⟩
  replace hb := seqB hb hbn
  replace ho := ho.below hbn
  replace hoC := hoC.below hbn
  clear hbn
  have HK := Lib.hid (gap_law xs l)
  generalize hV : wgap xs l = x at *
  have HV := Lib.hid hV; clear hV
  have hne : (x != x) = false := by simp
  go_wp2_with fail
  refine (specWG _ _ _ xs _ _ _ l _ rfl hn ho.rd rfl hll hoC.rd).mono ?_
  rintro e w3 ⟨rfl, hbn⟩
  replace hb := seqB hb hbn
  replace ho := ho.below hbn
  replace hoC := hoC.below hbn
  clear hbn
  rw [HV.out]
  rcases HK.out with hx | ⟨hx0, hx1, h20, hil, hall, hsome⟩
  · have hx' : (x == -1) = true := by simp [hx]
    have hlt : x < 0 := by omega
    go_wp2_with fail
    refine (aliveC _).mono ?_
    rintro e w4 ⟨rfl, hbn⟩
    replace hb := seqB hb hbn
    replace ho := ho.below hbn
    replace hoC := hoC.below hbn
    clear hbn
    go_wp2_with fail
    go_ret
    exact ⟨ret_bool (by simp), hb⟩
  · clear HK HV
    have hlt : ¬ x < 0 := by omega
    have HA1 := Lib.hid hall; clear hall
    have HS1 := Lib.hid hsome; clear hsome
    have HIL := Lib.hid hil; clear hil
    go_wp2_with fail
    refine (implIO _ _ _ l (xs.length : Int) _ rfl hll hoC.rd).mono ?_
    rintro e w4 ⟨BI, dI, rfl, hoI, hbn⟩
    replace hb := seqB hb hbn
    replace ho := ho.below hbn
    replace hoC := hoC.below hbn
    clear hbn
    generalize hI : img l (xs.length : Int) = im at *
    clear hI
    replace hoI := Lib.hid hoI.rd
    rw [HIL.out]
    have hne2 : ((xs.length : Int) != (xs.length : Int)) = false := by simp
    have HX := Lib.hid ho.rd
    clear ho hoC
    generalize hN : xs.length = n at *
    have HN := Lib.hid hN; clear hN
    generalize hz : ((n : Int) == 0) = z at *
    go_wp2_with fail
    go_loopw [7, 8] (fun s i wr => ∃ (k : Nat) (sb : Bool), k ≤ n ∧ i = .int .i64 k ∧ s = .bool sb ∧ Hid (sb = (z || (List.range k).any fun j => far (xs.getD j 0) (im.getD j 0) == x)) ∧ Hid (∃ q, wr = w4.drewN q)) (fun _ i _ => n - (intOf i).toNat)
    case atStart => exact ⟨0, z, by omega, rfl, rfl, by simp [Hid], 0, rfl⟩
    case round =>
      obtain ⟨k, sb, hk, rfl, rfl, hsb, hq⟩ := hrel
      by_cases hlt2 : k < n
      · have hA' : Rd wr B (ints xs) := by obtain ⟨q, rfl⟩ := hq.out; exact HX.out.drewN q
        have hI' : Rd wr BI (ints im) := by obtain ⟨q, rfl⟩ := hq.out; exact hoI.out.drewN q
        obtain ⟨b1, o1, rfl, _, hc1⟩ := hA'.int (k := k) (by have := HN.out; omega)
        obtain ⟨b2, o2, rfl, _, hc2⟩ := hI'.int (k := k) (by have := HIL.out; omega)
        obtain ⟨⟨ha0, ha1⟩, ⟨hb0, hb1⟩, hle⟩ := HA1.out k hlt2
        have hst : Hid (((List.range (k + 1)).any fun j => far (xs.getD j 0) (im.getD j 0) == x) = (((List.range k).any fun j => far (xs.getD j 0) (im.getD j 0) == x) || far (xs.getD k 0) (im.getD k 0) == x)) := by simp [Hid, List.range_succ]
        generalize hu : ((List.range k).any fun j => far (xs.getD j 0) (im.getD j 0) == x) = u at *
        generalize xs.getD k 0 = a at *
        generalize im.getD k 0 = bb at *
        clear hA' hI' hu hz
        go_wp2_with fail
        go_quiet (fail)
        rw [show (if a - bb < bb - a then bb - a else a - bb) = far a bb from rfl]
        generalize far a bb = F at *
        have hgt : ¬ x < F := by omega
        cases sb with
        | true =>
          go_wp2_with fail
          go_roundw
          case rel => exact ⟨k + 1, true, by omega, by go_num, rfl, by rw [Hid, hst.out, ← Bool.or_assoc, ← hsb.out]; rfl, drewN_more hq⟩
          case measure => simp [intOf]; omega
        | false =>
          cases hF : (F == x) with
          | true =>
            go_wp2_with fail
            go_roundw
            case rel => exact ⟨k + 1, true, by omega, by go_num, rfl, by rw [Hid, hst.out, hF, ← Bool.or_assoc, ← hsb.out]; rfl, drewN_more hq⟩
            case measure => simp [intOf]; omega
          | false =>
            go_wp2_with fail
            go_roundw
            case rel => exact ⟨k + 1, false, by omega, by go_num, rfl, by rw [Hid, hst.out, hF, ← Bool.or_assoc, ← hsb.out]; rfl, drewN_more hq⟩
            case measure => simp [intOf]; omega
      · have hkn : k = n := by omega
        subst hkn
        have hsb' : sb = true := by
          rw [hsb.out]
          cases hz' : z with
          | true => rfl
          | false =>
            have h0 : 0 < k := by
              rcases Nat.eq_zero_or_pos k with e | e
              · subst e; rw [hz'] at hz; simp at hz
              · exact e
            obtain ⟨j, hj, he⟩ := HS1.out h0
            rw [Bool.false_or, List.any_eq_true]
            exact ⟨j, by simpa using hj, beq_iff_eq.2 he⟩
        subst hsb'
        clear hz
        go_wp2_with fail
        go_ret
        obtain ⟨q, rfl⟩ := hq.out
        exact ⟨rfl, drewNB hb q⟩
end Go.Proofs.YtanogghchmjkgaaDoor.lWG
