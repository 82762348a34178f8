/- The walk of FnImageOf: it returns true, and writes nothing that was there. -/
import Derived.Test.YtanogghchmjkgaaDoorSmR
import Derived.Test.YtanogghchmjkgaaDoorSmpL
import Derived.IntWalk
namespace Go.Proofs.YtanogghchmjkgaaDoor.lIO
open Go.RowKit Go.Proofs.YtanogghchmjkgaaDoor

theorem img_all (l : List Report) (p : Int) : img l p = [] ∨ (0 < (img l p).length ∧ (img l p).length ≤ 20 ∧ p = ((img l p).length : Int) ∧ smpB (img l p) = true ∧ img (reps (img l p) 0) (img l p).length = img l p ∧
    ∀ k, k < (img l p).length → (∀ j, j < l.length → (l.getD j Report.zero).fAt = k → (img l p).getD k 0 = (l.getD j Report.zero).fValue) ∧ ((∀ j, j < l.length → (l.getD j Report.zero).fAt ≠ k) → 0 < k ∧ (img l p).getD k 0 = (img l p).getD (k - 1) 0)) := by
  by_cases h : img l p = []
  · exact .inl h
  · right
    obtain ⟨hr, hm, he, hl⟩ := img_ok h
    have h0 : 0 < (img l p).length := by omega
    exact ⟨h0, by omega, hl.symm, img_smp h, img_again (img_smp h) h0, fun k hk => img_law h (by omega)⟩

set_option maxHeartbeats 2000000 in
theorem walk (w : World) (A : Option Addr) (m c : Nat) (hc : m ≤ c) (hm : m ≤ maxLen) (hA : RdB w A m) :
    Calls Tryd.prog 3 #[.slice A m c] w fun e w' => e = .returned (.bool true) ∧ Below w.heap.size w w' := by
  unfold maxLen at hm
  by_cases hs : m ≤ 1048576
  case neg =>
    go_enter Tryd.func3, Tryd.ntmps3
    go_wp2_with fail
    go_ret
    exact ⟨rfl, Below.refl _ _⟩
  have HA := Lib.hid hA; clear hA
  have hb : Below w.heap.size w w := Below.refl _ _
  go_enter Tryd.func3, Tryd.ntmps3
  go_wp2_with fail
  refine (dDrawImageOf A m c w hc hs HA.out).mono ?_
  rintro e w1 ⟨l, B, d, p, rfl, hp, hlx, hF, ho, hbn⟩
  replace hb := seqB hb hbn
  clear hbn
  have hn : l.length ≤ 1048576 := by omega
  go_wp2_with fail
  refine (implIO _ _ _ l p _ rfl hn ho.rd).mono ?_
  rintro e w2 ⟨C, d2, rfl, hoC, hbn⟩
  replace hb := seqB hb hbn
  replace ho := ho.below hbn
  clear hbn
  go_wp2_with fail
  refine (specIO _ _ _ l p _ rfl hn ho.rd).mono ?_
  rintro e w3 ⟨C3, d3, rfl, hoD, hbn⟩
  replace hb := seqB hb hbn
  replace ho := ho.below hbn
  replace hoC := hoC.below hbn
  clear hbn
  have HK := Lib.hid (img_all l p)
  have hll := img_le l p
  generalize hV : img l p = x at *
  have HV := Lib.hid hV; clear hV
  go_wp2_with fail
  refine (sameInts_same _ _ _ _ _ x _ rfl hll hoC.rd hoD.rd).mono ?_
  rintro e w4 ⟨rfl, qw4, rfl⟩
  have hbn := drewB w3 qw4
  generalize w3.drewN qw4 = w4 at *
  replace hb := seqB hb hbn
  replace ho := ho.below hbn
  replace hoC := hoC.below hbn
  replace hoD := hoD.below hbn
  clear hbn
  clear hoD
  rcases HK.out with hx | ⟨hx0, hx20, hpx, hval, hagain, hlaw⟩
  · subst hx
    go_wp2_with fail
    refine (aliveC _).mono ?_
    rintro e w5 ⟨rfl, hbn⟩
    replace hb := seqB hb hbn
    replace ho := ho.below hbn
    replace hoC := hoC.below hbn
    clear hbn
    go_wp2_with fail
    go_ret
    exact ⟨ret_bool (by simp), hb⟩
  · clear HK HV
    subst hpx
    have HL := Lib.hid hlaw; clear hlaw
    have HVal := Lib.hid hval; clear hval
    have HAg := Lib.hid hagain; clear hagain
    have hl0' : ((x.length : Int) == 0) = false := beq_eq_false_iff_ne.2 (by omega)
    have hne2 : ((x.length : Int) != (x.length : Int)) = false := by simp
    go_wp2_with fail
    go_loopw [6] (fun i wr => ∃ k : Nat, k ≤ x.length ∧ i = .int .i64 k ∧ Hid (∃ q, wr = w4.drewN q)) (fun i _ => x.length - (intOf i).toNat)
    case atStart => exact ⟨0, by omega, rfl, 0, rfl⟩
    case round =>
      obtain ⟨k, hk, rfl, hq⟩ := hrel
      by_cases hlt : k < x.length
      · obtain ⟨hyes, hno⟩ := HL.out k hlt
        have HY := Lib.hid hyes; clear hyes
        have HO := Lib.hid hno; clear hno
        go_wp2_with fail
        go_loopw [7, 8] (fun t j wr => ∃ (jj : Nat) (tb : Bool), jj ≤ l.length ∧ j = .int .i64 jj ∧ t = .bool tb ∧ Hid (tb = false → ∀ i, i < jj → (l.getD i Report.zero).fAt ≠ k) ∧ Hid (∃ q, wr = w4.drewN q)) (fun _ j _ => l.length - (intOf j).toNat)
        case atStart => exact ⟨0, false, by omega, rfl, rfl, Lib.hid (fun _ i hi => by omega), hq⟩
        case round =>
          clear hq
          obtain ⟨jj, tb, hjj, rfl, rfl, hnt, hq⟩ := hrel
          by_cases hj : jj < l.length
          · have hL' : Rd wr B (flatReport l) := by obtain ⟨q, rfl⟩ := hq.out; exact ho.rd.drewN q
            have hX' : Rd wr C (ints x) := by obtain ⟨q, rfl⟩ := hq.out; exact hoC.rd.drewN q
            obtain ⟨b1, o1, rfl, _, hc0, hc1⟩ := hL'.atReport (k := jj) hj
            obtain ⟨b2, o2, rfl, _, hc2⟩ := hX'.int (k := k) hlt
            have hy := HY.out jj hj
            generalize hr : l.getD jj Report.zero = r at *
            have HR := Lib.hid hr; clear hr
            clear hL' hX'
            cases hat : (r.fAt == (k : Int)) with
            | true =>
              rw [hy (by simpa using hat)] at hc2
              have hvv : (r.fValue != r.fValue) = false := by simp
              clear hy
              go_wp2_with fail
              go_quiet (fail)
              go_wp2_with fail
              go_roundw
              case rel => exact ⟨jj + 1, true, by omega, by go_num, rfl, Lib.hid (fun h => by cases h), drewN_more hq⟩
              case measure => simp [intOf]; omega
            | false =>
              clear hy hc2
              go_wp2_with fail
              go_roundw
              case rel => exact ⟨jj + 1, tb, by omega, by go_num, rfl, Lib.hid (fun h i hi => by
                by_cases e : i = jj
                · subst e; rw [HR.out]; intro h2; rw [h2] at hat; simp at hat
                · exact hnt.out h i (by omega)), hq⟩
              case measure => simp [intOf]; omega
          · have hX' : Rd wr C (ints x) := by obtain ⟨q, rfl⟩ := hq.out; exact hoC.rd.drewN q
            cases tb with
            | true =>
              clear hX'
              go_wp2_with fail
              go_quiet (fail)
              go_wp2_with fail
              go_roundw
              case rel => exact ⟨k + 1, by omega, by go_num, drewN_more hq⟩
              case measure => simp [intOf]; omega
            | false =>
              obtain ⟨hk0, heq⟩ := HO.out (fun i hi => hnt.out rfl i (by omega))
              obtain ⟨b2, o2, rfl, _, hc2⟩ := hX'.int (k := k) hlt
              obtain ⟨b3, o3, e3, _, hc3⟩ := hX'.int (k := k - 1) (by omega)
              cases e3
              rw [heq] at hc2
              generalize x.getD (k - 1) 0 = v at *
              have hvv : (v != v) = false := by simp
              have hz : ((k : Int) == 0) = false := beq_eq_false_iff_ne.2 (by omega)
              have hi1 : (k : Int) < (x.length : Int) := by omega
              have hi2 : (k : Int) - 1 < (x.length : Int) := by omega
              have hi3 : (0 : Int) ≤ (k : Int) - 1 := by omega
              have wr0 : IntKind.i64.wrap ((k : Int) - 1) = (k : Int) - 1 := IntWalk.i64_in _ (by omega)
              clear hX' heq
              go_wp2_with fail
              go_quiet (fail)
              clear wr0
              go_wp2_with fail
              go_roundw
              case rel => exact ⟨k + 1, by omega, by go_num, drewN_more hq⟩
              case measure => simp [intOf]; omega
      · replace hb : Below w.heap.size w wr := by obtain ⟨q, rfl⟩ := hq.out; exact drewNB hb q
        replace hoC : Own wr w1.heap.size 3 1 C x.length (ints x) := by obtain ⟨q, rfl⟩ := hq.out; exact hoC
        clear hq ho
        go_wp2_with fail
        refine (implRO _ _ _ x 0 _ rfl hll hoC.rd).mono ?_
        rintro e w5 ⟨C4, d4, rfl, hoR, hbn⟩
        replace hb := seqB hb hbn
        replace hoC := hoC.below hbn
        clear hbn
        go_wp2_with fail
        refine (implIO _ _ _ (reps x 0) (x.length : Int) _ rfl (reps_len _ _) hoR.rd).mono ?_
        rintro e w6 ⟨C5, d5, rfl, hoI, hbn⟩
        replace hb := seqB hb hbn
        replace hoC := hoC.below hbn
        replace hoR := hoR.below hbn
        clear hbn
        rw [HAg.out] at hoI
        rw [HAg.out]
        go_wp2_with fail
        refine (sameInts_same _ _ _ _ _ x _ rfl hll hoI.rd hoC.rd).mono ?_
        rintro e w7 ⟨rfl, qw7, rfl⟩
        have hbn := drewB w6 qw7
        generalize w6.drewN qw7 = w7 at *
        replace hb := seqB hb hbn
        replace hoC := hoC.below hbn
        replace hoR := hoR.below hbn
        replace hoI := hoI.below hbn
        clear hbn
        go_wp2_with fail
        go_ret
        exact ⟨rfl, hb⟩
end Go.Proofs.YtanogghchmjkgaaDoor.lIO
