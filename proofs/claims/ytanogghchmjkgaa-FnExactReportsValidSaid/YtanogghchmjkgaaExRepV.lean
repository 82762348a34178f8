/- The walk of FnExactReportsValid: it returns true, and writes nothing that was there. -/
import Derived.Test.YtanogghchmjkgaaRepV
namespace Go.Proofs.Ytanogghchmjkgaa.exRepV
open Go.RowKit Go.Proofs.Ytanogghchmjkgaa

set_option maxHeartbeats 400000 in
theorem walk (w : World) (A : Option Addr) (n c : Nat) (l : List Report) (hn : l.length = n) (hm : n ≤ maxLen) (hA : Rd w A (flatReport l)) :
    Calls Try.prog 4 #[.slice A n c] w fun e w' => e = .returned (.bool true) ∧ Below w.heap.size w w' := by
  unfold maxLen at hm
  have HA := Lib.hid hA; clear hA
  have HN := Lib.hid hn; clear hn
  by_cases hs : n ≤ 1048576
  · go_enter Try.func4, Try.ntmps4
    go_wp2_with fail
    refine (szReportS_ok A n c _ _ (by omega) (by omega)).mono ?_
    rintro e w' ⟨rfl, rfl⟩
    go_wp2_with fail
    refine (toReportS_any A n c l _ HN.out hs HA.out).mono ?_
    rintro e w1 ⟨rfl, ho1, hb1⟩
    go_wp2_with fail
    refine (specRV _ n n l _ HN.out hs ho1.rd).mono ?_
    rintro e w2 ⟨rfl, q, rfl⟩
    have hb2 := seqB hb1 (drewB w1 q)
    clear hb1 ho1
    go_wp2_with fail
    refine (toReportS_any A n c l _ HN.out hs (HA.out.below hb2)).mono ?_
    rintro e w3 ⟨rfl, ho3, hb3⟩
    have hb3' := seqB hb2 hb3
    clear hb2 hb3
    go_wp2_with fail
    refine (implRV _ n n l _ HN.out hs ho3.rd).mono ?_
    rintro e w4 ⟨rfl, hb4⟩
    have ho4 := ho3.below hb4
    have hb4' := seqB hb3' hb4
    clear hb3' hb4 ho3
    generalize repB l = s
    have hne : (s != s) = false := by simp
    go_wp2_with fail
    refine (toReportS_any A n c l _ HN.out hs (HA.out.below hb4')).mono ?_
    rintro e w5 ⟨rfl, ho5, hb5⟩
    go_wp2_with fail
    refine (eqReportS_same _ _ n n n l _ HN.out hs (ho4.rd.below hb5) ho5.rd).mono ?_
    rintro e w6 ⟨rfl, hb6⟩
    go_wp2_with fail
    go_ret
    exact ⟨rfl, seqB (seqB hb4' hb5) hb6⟩
  · go_enter Try.func4, Try.ntmps4
    go_wp2_with fail
    refine (szReportS_no A n c _ _ (by omega) (by omega) (by omega)).mono ?_
    rintro e w' ⟨rfl, rfl⟩
    go_wp2_with fail
    go_ret
    exact ⟨rfl, Below.refl _ _⟩
end Go.Proofs.Ytanogghchmjkgaa.exRepV
