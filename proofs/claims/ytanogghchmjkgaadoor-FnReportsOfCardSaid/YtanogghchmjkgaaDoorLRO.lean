/- The walk of FnReportsOf: it returns true, and writes nothing that was there. -/
import Derived.Test.YtanogghchmjkgaaDoorSmR
import Derived.Test.YtanogghchmjkgaaDoorSmpL
import Derived.Test.YtanogghchmjkgaaDoorLRd
import Derived.Test.YtanogghchmjkgaaDoorRepC
import Derived.IntWalk
namespace Go.Proofs.YtanogghchmjkgaaDoor.lRO
open Go.RowKit Go.Proofs.YtanogghchmjkgaaDoor

set_option maxHeartbeats 2000000 in
theorem walk (w : World) (A : Option Addr) (m c : Nat) (hc : m ≤ c) (hm : m ≤ maxLen) (hA : RdB w A m) :
    Calls Tryd.prog 4 #[.slice A m c] w fun e w' => e = .returned (.bool true) ∧ Below w.heap.size w w' := by
  unfold maxLen at hm
  by_cases hs : m ≤ 1048576
  case neg =>
    go_enter Tryd.func4, Tryd.ntmps4
    go_wp2_with fail
    go_ret
    exact ⟨rfl, Below.refl _ _⟩
  have HA := Lib.hid hA; clear hA
  have hb : Below w.heap.size w w := Below.refl _ _
  go_enter Tryd.func4, Tryd.ntmps4
  go_wp2_with fail
  refine (dDrawReportsOf A m c w hc hs HA.out).mono ?_
  rintro e w1 ⟨xs, B, d, p, rfl, hp, hlx, hF, ho, hbn⟩
  replace hb := seqB hb hbn
  clear hbn
  have hn : xs.length ≤ 1048576 := by omega
  go_wp2_with fail
  refine (implROc _ _ _ xs p _ rfl hn ho.rd).mono ?_
  rintro e w2 ⟨C, d2, rfl, hoC, hdC, hbn⟩
  replace hb := seqB hb hbn
  replace ho := ho.below hbn
  clear hbn
  go_wp2_with fail
  refine (specRO _ _ _ xs p _ rfl hn ho.rd).mono ?_
  rintro e w3 ⟨C3, d3, rfl, hoD, hbn⟩
  replace hb := seqB hb hbn
  replace ho := ho.below hbn
  replace hoC := hoC.below hbn
  clear hbn
  have HK := Lib.hid (reps_law xs p)
  have hll := reps_len xs p
  generalize hV : reps xs p = l at *
  have HV := Lib.hid hV; clear hV
  go_wp2_with fail
  refine (sameReports_same _ _ _ _ _ l _ rfl hll hoC.rd hoD.rd).mono ?_
  rintro e w4 ⟨rfl, qw4, rfl⟩
  have hbn := drewB w3 qw4
  generalize w3.drewN qw4 = w4 at *
  replace hb := seqB hb hbn
  replace ho := ho.below hbn
  replace hoC := hoC.below hbn
  replace hoD := hoD.below hbn
  clear hbn
  clear hoD
  rcases HK.out with hx | ⟨hx0, hx20, ⟨hp0, hp1⟩, hl0, hl20, hval, hv9, hfar, ⟨hg0, hg1⟩, hfl, hft⟩
  · subst hx
    go_wp2_with fail
    refine (aliveC _).mono ?_
    rintro e w5 ⟨rfl, hbn⟩
    replace hb := seqB hb hbn
    replace ho := ho.below hbn
    replace hoC := hoC.below hbn
    clear hbn
    go_wp2_with fail
    go_ret
    exact ⟨ret_bool (by simp), hb⟩
  · have hl0' : ((l.length : Int) == 0) = false := beq_eq_false_iff_ne.2 (by omega)
    have HF := Lib.hid hfar; clear hfar
    have H9 := Lib.hid hv9; clear hv9
    have HVal := Lib.hid hval; clear hval
    have HFT := Lib.hid hft; clear hft
    have hlI : (0 : Int) < (l.length : Int) := by omega
    go_wp2_with fail
    go_loopw [6] (fun i wr => ∃ k : Nat, 1 ≤ k ∧ k ≤ l.length ∧ i = .int .i64 k ∧ Hid (∃ q, wr = w4.drewN q)) (fun i _ => l.length - (intOf i).toNat)
    case atStart => exact ⟨1, by omega, by omega, rfl, 0, rfl⟩
    case round =>
      obtain ⟨k, hk1, hk, rfl, hq⟩ := hrel
      by_cases hlt2 : k < l.length
      · have hC' : Rd wr C (flatReport l) := by obtain ⟨q, rfl⟩ := hq.out; exact hoC.rd.drewN q
        obtain ⟨b1, o1, rfl, _, _, hc1⟩ := hC'.atReport (k := k) hlt2
        obtain ⟨b2, o2, e2, _, _, hc2⟩ := hC'.atReport (k := k - 1) (by omega)
        cases e2
        have hf := HF.out k (by omega) hlt2
        have hv1 := H9.out _ (List.getElem_mem hlt2)
        have hv2 := H9.out _ (List.getElem_mem (show k - 1 < l.length by omega))
        rw [show l[k] = l.getD k Report.zero by simp [hlt2]] at hv1
        rw [show l[k - 1] = l.getD (k - 1) Report.zero by simp [show k - 1 < l.length by omega]] at hv2
        generalize (l.getD k Report.zero).fValue = a at *
        generalize (l.getD (k - 1) Report.zero).fValue = b at *
        have hi1 : (k : Int) < (l.length : Int) := by omega
        have hi2 : (k : Int) - 1 < (l.length : Int) := by omega
        have hi3 : (0 : Int) ≤ (k : Int) - 1 := by omega
        have wr0 : IntKind.i64.wrap ((k : Int) - 1) = (k : Int) - 1 := IntWalk.i64_in _ (by omega)
        have hcs : (¬ a - b ≤ p) ∨ (a - b ≤ p ∧ ¬ -(a - b) ≤ p) := by
          unfold far at hf; split at hf <;> omega
        clear hC' hf
        go_wp2_with fail
        go_quiet (fail)
        clear wr0
        rcases hcs with h1 | ⟨h1, h2⟩
        all_goals
          go_wp2_with fail
          go_roundw
          case rel => exact ⟨k + 1, by omega, by omega, by go_num, drewN_more hq⟩
          case measure => simp [intOf]; omega
      · replace hb : Below w.heap.size w wr := by obtain ⟨q, rfl⟩ := hq.out; exact drewNB hb q
        replace ho : Own wr w.heap.size 3 1 B xs.length (ints xs) := by obtain ⟨q, rfl⟩ := hq.out; exact ho
        replace hoC : Own wr w1.heap.size 31 2 C l.length (flatReport l) := by obtain ⟨q, rfl⟩ := hq.out; exact hoC
        clear hq
        go_wp2_with fail
        refine (implWG _ _ _ xs _ _ _ l _ rfl hn ho.rd rfl hll hoC.rd).mono ?_
        rintro e w5 ⟨rfl, hbn⟩
        replace hb := seqB hb hbn
        replace ho := ho.below hbn
        replace hoC := hoC.below hbn
        clear hbn
        generalize wgap xs l = G at *
        obtain ⟨hF1, ⟨rfl, rfl⟩ | ⟨g, rfl⟩⟩ := hF
        · exact absurd hF1 (by omega)
        have hi2 : (xs.length : Int) ≤ (d : Int) := by omega
        have hi3 : (1 : Int) ≤ (xs.length : Int) := by omega
        have hi4 : (xs.length : Int) - 1 ≤ (d : Int) := by omega
        go_wp2_with fail
        refine (implRO _ _ _ (xs.take (xs.length - 1)) p _ (by first | (simp; done) | (simp; omega)) (by omega) (rdTake ho.rd)).mono ?_
        rintro e w6 ⟨D1, d4, rfl, hoF, hbn⟩
        replace hb := seqB hb hbn
        replace ho := ho.below hbn
        replace hoC := hoC.below hbn
        clear hbn
        generalize reps (xs.take (xs.length - 1)) p = fl at *
        obtain ⟨gl, rfl, _, _⟩ := hoC.form hl0
        go_wp2_with fail
        refine (implRV _ _ _ l _ rfl hll hoC.rd).mono ?_
        rintro e w7 ⟨rfl, hbn⟩
        replace hb := seqB hb hbn
        replace ho := ho.below hbn
        replace hoC := hoC.below hbn
        replace hoF := hoF.below hbn
        clear hbn
        rw [HVal.out]
        have hi6 : (fl.length : Int) ≤ (l.length : Int) := by omega
        have hdl : (l.length : Int) ≤ (d2 : Int) := by have := hdC; omega
        go_wp2_with fail
        refine (sameReports_same _ _ _ _ _ fl _ rfl (by omega) hoF.rd (by have := hoC.rd.takeReport fl.length; rw [HFT.out] at this; exact this)).mono ?_
        rintro e w8 ⟨rfl, qw8, rfl⟩
        have hbn := drewB w7 qw8
        generalize w7.drewN qw8 = w8 at *
        replace hb := seqB hb hbn
        replace ho := ho.below hbn
        replace hoC := hoC.below hbn
        replace hoF := hoF.below hbn
        clear hbn
        go_wp2_with fail
        go_ret
        exact ⟨ret_bool (by simp), hb⟩
end Go.Proofs.YtanogghchmjkgaaDoor.lRO
