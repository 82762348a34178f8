/- The walk of FnReportsValid: it returns true, and writes nothing that was there. -/
import Derived.Test.YtanogghchmjkgaaDoorDrN
import Derived.Test.YtanogghchmjkgaaDoorLawI
import Derived.Test.YtanogghchmjkgaaDoorSmpL
import Derived.Test.YtanogghchmjkgaaDoorLRd
namespace Go.Proofs.YtanogghchmjkgaaDoor.lRV
open Go.RowKit Go.Proofs.YtanogghchmjkgaaDoor

set_option maxHeartbeats 2000000 in
theorem walk (w : World) (A : Option Addr) (m c : Nat) (hc : m ≤ c) (hm : m ≤ maxLen) (hA : RdB w A m) :
    Calls Tryd.prog 6 #[.slice A m c] w fun e w' => e = .returned (.bool true) ∧ Below w.heap.size w w' := by
  unfold maxLen at hm
  by_cases hs : m ≤ 1048576
  case neg =>
    go_enter Tryd.func6, Tryd.ntmps6
    go_wp2_with fail
    go_ret
    exact ⟨rfl, Below.refl _ _⟩
  have HA := Lib.hid hA; clear hA
  have hb : Below w.heap.size w w := Below.refl _ _
  go_enter Tryd.func6, Tryd.ntmps6
  go_wp2_with fail
  refine (dDrawReportsValid A m c w hc hs HA.out).mono ?_
  rintro e w1 ⟨l, B, d, rfl, hl, hF, ho, hbn⟩
  replace hb := seqB hb hbn
  clear hbn
  have hn : l.length ≤ 1048576 := by omega
  go_wp2_with fail
  refine (implRV _ _ _ l _ rfl hn ho.rd).mono ?_
  rintro e w2 ⟨rfl, hbn⟩
  replace hb := seqB hb hbn
  replace ho := ho.below hbn
  clear hbn
  generalize hV : repB l = b at *
  have HV := Lib.hid hV; clear hV
  have hne : (b != b) = false := by simp
  go_wp2_with fail
  refine (specRV _ _ _ l _ rfl hn ho.rd).mono ?_
  rintro e w3 ⟨rfl, qw3, rfl⟩
  have hbn := drewB w2 qw3
  generalize w2.drewN qw3 = w3 at *
  replace hb := seqB hb hbn
  replace ho := ho.below hbn
  clear hbn
  rw [HV.out]
  cases b with
  | false =>
    go_wp2_with fail
    refine (implRV none 0 0 [] _ rfl (by omega) Rd.nil).mono ?_
    rintro e w4 ⟨rfl, hbn⟩
    replace hb := seqB hb hbn
    replace ho := ho.below hbn
    clear hbn
    rw [rep_nil]
    go_wp2_with fail
    refine (aliveC _).mono ?_
    rintro e w5 ⟨rfl, hbn⟩
    replace hb := seqB hb hbn
    replace ho := ho.below hbn
    clear hbn
    go_wp2_with fail
    go_ret
    exact ⟨ret_bool (by simp), hb⟩
  | true =>
    by_cases h2 : l.length < 2
    · have h2' : (l.length : Int) < 2 := by omega
      go_wp2_with fail
      refine (implRV none 0 0 [] _ rfl (by omega) Rd.nil).mono ?_
      rintro e w4 ⟨rfl, hbn⟩
      replace hb := seqB hb hbn
      replace ho := ho.below hbn
      clear hbn
      rw [rep_nil]
      go_wp2_with fail
      refine (aliveC _).mono ?_
      rintro e w5 ⟨rfl, hbn⟩
      replace hb := seqB hb hbn
      replace ho := ho.below hbn
      clear hbn
      go_wp2_with fail
      go_ret
      exact ⟨ret_bool (by simp), hb⟩
    · have h2' : ¬ (l.length : Int) < 2 := by omega
      obtain ⟨hF1, ⟨rfl, rfl⟩ | ⟨g, rfl⟩⟩ := hF
      · exact absurd hF1 (by omega)
      have hi2 : (l.length : Int) ≤ (d : Int) := by omega
      have hi3 : (2 : Int) ≤ (l.length : Int) := by omega
      have hi4 : (2 : Int) ≤ (d : Int) := by omega
      have hi5 : (1 : Int) ≤ (l.length : Int) := by omega
      have hi6 : (1 : Int) ≤ (d : Int) := by omega
      have ht := Lib.hid (rep_init HV.out (by omega))
      have ht2 := Lib.hid (rep_tail HV.out (by omega))
      go_wp2_with fail
      refine (implRV _ _ _ (l.take (l.length - 1)) _ (by first | (simp; done) | (simp; omega)) (by omega) (ho.rd.takeReport _)).mono ?_
      rintro e w4 ⟨rfl, hbn⟩
      replace hb := seqB hb hbn
      replace ho := ho.below hbn
      clear hbn
      rw [ht.out]
      go_wp2_with fail
      refine (implRV _ _ _ (l.drop 1) _ (by first | (simp; done) | (simp; omega)) (by omega) (by simpa using ho.rd.dropReport 1)).mono ?_
      rintro e w5 ⟨rfl, hbn⟩
      replace hb := seqB hb hbn
      replace ho := ho.below hbn
      clear hbn
      rw [ht2.out]
      go_wp2_with fail
      go_ret
      exact ⟨ret_bool (by simp), hb⟩
end Go.Proofs.YtanogghchmjkgaaDoor.lRV
