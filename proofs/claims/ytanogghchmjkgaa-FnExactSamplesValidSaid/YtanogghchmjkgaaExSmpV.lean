/- The walk of FnExactSamplesValid: it returns true, and writes nothing that was there. -/
import Derived.Test.YtanogghchmjkgaaSmpV
namespace Go.Proofs.Ytanogghchmjkgaa.exSmpV
open Go.RowKit Go.Proofs.Ytanogghchmjkgaa

set_option maxHeartbeats 400000 in
theorem walk (w : World) (A : Option Addr) (n c : Nat) (xs : List Int) (hn : xs.length = n) (hm : n ≤ maxLen) (hA : Rd w A (ints xs)) (_hw : ∀ x ∈ xs, (Lit.int .i64 x).wf = true) :
    Calls Try.prog 3 #[.slice A n c] w fun e w' => e = .returned (.bool true) ∧ Below w.heap.size w w' := by
  unfold maxLen at hm
  have HA := Lib.hid hA; clear hA
  have HN := Lib.hid hn; clear hn
  by_cases hs : n ≤ 1048576
  · go_enter Try.func3, Try.ntmps3
    go_wp2_with fail
    refine (toIntS_any A n c xs _ HN.out hs HA.out).mono ?_
    rintro e w1 ⟨rfl, ho1, hb1⟩
    go_wp2_with fail
    refine (specSV _ n n xs _ HN.out hs ho1.rd).mono ?_
    rintro e w' ⟨rfl, rfl⟩
    go_wp2_with fail
    refine (toIntS_any A n c xs _ HN.out hs (HA.out.below hb1)).mono ?_
    rintro e w2 ⟨rfl, ho2, hb2⟩
    go_wp2_with fail
    refine (implSV _ n n xs _ HN.out hs ho2.rd).mono ?_
    rintro e w' ⟨rfl, rfl⟩
    generalize hsm : smpB xs = s
    have hne : (s != s) = false := by simp
    clear hsm
    go_wp2_with fail
    refine (toIntS_any A n c xs _ HN.out hs (HA.out.below (seqB hb1 hb2))).mono ?_
    rintro e w3 ⟨rfl, ho3, hb3⟩
    go_wp2_with fail
    refine (eqIntS_same _ _ n n n xs _ HN.out hs (ho2.rd.below hb3) ho3.rd).mono ?_
    rintro e w4 ⟨rfl, q, rfl⟩
    go_wp2_with fail
    go_ret
    exact ⟨rfl, seqB (seqB (seqB hb1 hb2) hb3) (drewB _ _)⟩
  · go_enter Try.func3, Try.ntmps3
    go_wp2_with fail
    go_ret
    exact ⟨rfl, Below.refl _ _⟩
end Go.Proofs.Ytanogghchmjkgaa.exSmpV
