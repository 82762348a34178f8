/- The walk of FnPeakPlan: it returns true, and writes nothing that was there. -/
import Derived.Test.YtjlbhpogmjjbiaaDoorDrB
import Derived.Test.YtjlbhpogmjjbiaaDoorLawI
import Derived.Test.YtjlbhpogmjjbiaaDoorBatM
import Derived.Test.YtjlbhpogmjjbiaaDoorBatN
namespace Go.Proofs.YtjlbhpogmjjbiaaDoor.lPP
open Go.RowKit Go.Proofs.YtjlbhpogmjjbiaaDoor

set_option maxHeartbeats 2000000 in
theorem walk (w : World) (A : Option Addr) (m c : Nat) (hc : m ≤ c) (hm : m ≤ maxLen) (hA : RdB w A m) :
    Calls Tryd.prog 6 #[.slice A m c] w fun e w' => e = .returned (.bool true) ∧ Below w.heap.size w w' := by
  unfold maxLen at hm
  by_cases hs : m ≤ 1048576
  case neg =>
    go_enter Tryd.func6, Tryd.ntmps6
    go_wp2_with fail
    go_ret
    exact ⟨rfl, Below.refl _ _⟩
  have HA := Lib.hid hA; clear hA
  have hb : Below w.heap.size w w := Below.refl _ _
  go_enter Tryd.func6, Tryd.ntmps6
  go_wp2_with fail
  refine (dDrawPeakPlan A m c w hc hs HA.out).mono ?_
  rintro e w1 ⟨s, r, l, xs, B, d, p, rfl, ⟨hp0, hp1⟩, hl, ho, hbn⟩
  replace hb := seqB hb hbn
  clear hbn
  have hn : xs.length ≤ 1048576 := by omega
  clear hl
  have hbox := new_box w1 (.cells #[.int .i64 s, .int .i64 r, .int .i64 l] 24)
  replace hb := allocB hb (.cells #[.int .i64 s, .int .i64 r, .int .i64 l] 24)
  replace ho := ho.below (allocB (Below.refl _ _) (.cells #[.int .i64 s, .int .i64 r, .int .i64 l] 24))
  go_wp2_with fail
  refine (implPP _ _ _ s r l p xs _ rfl hn (by omega) ho.rd).mono ?_
  rintro e w2 ⟨BG, dG, rfl, hoG, hbn⟩
  replace hb := seqB hb hbn
  replace ho := ho.below hbn
  replace hbox := be_box hbox hbn
  clear hbn
  (try clear g0 g1 g2)
  obtain ⟨g0, g1, g2⟩ := cells3 hbox.out
  go_wp2_with fail
  refine (specPP _ _ _ s r l p xs _ rfl hn (by omega) ho.rd).mono ?_
  rintro e w3 ⟨BW, dW, rfl, hoW, hbn⟩
  replace hb := seqB hb hbn
  replace ho := ho.below hbn
  replace hbox := be_box hbox hbn
  replace hoG := hoG.below hbn
  clear hbn
  (try clear g0 g1 g2)
  obtain ⟨g0, g1, g2⟩ := cells3 hbox.out
  have hVl := plan_le s r l p xs
  have HK := Lib.hid (plan_law s r l p xs)
  generalize hO : planV s r l p xs = O at *
  have HO := Lib.hid hO; clear hO
  go_wp2_with fail
  refine (sameInts_same _ _ _ _ _ (O.getD []) _ rfl hVl hoG.rd hoW.rd).mono ?_
  rintro e w9 ⟨rfl, q9, rfl⟩
  have hbn := drewB w3 q9
  generalize w3.drewN q9 = w9 at *
  replace hb := seqB hb hbn
  replace ho := ho.below hbn
  replace hbox := be_box hbox hbn
  replace hoG := hoG.below hbn
  replace hoW := hoW.below hbn
  clear hbn
  clear hoW
  clear g0 g1 g2
  obtain ⟨g0, g1, g2⟩ := cells3 hbox.out
  cases O with
  | none =>
    go_wp2_with fail
    refine (aliveC _).mono ?_
    rintro e w4 ⟨rfl, hbn⟩
    replace hb := seqB hb hbn
    replace ho := ho.below hbn
    replace hbox := be_box hbox hbn
    replace hoG := hoG.below hbn
    clear hbn
    go_wp2_with fail
    go_ret
    exact ⟨rfl, hb⟩
  | some ts =>
    obtain ⟨e1, e2, e3⟩ := HK.out ts rfl
    have hE1 := Lib.hid e1; clear e1
    go_wp2_with fail
    refine (implPO _ _ _ _ _ _ s r l xs ts _ rfl rfl hn hVl ho.rd hoG.rd).mono ?_
    rintro e w4 ⟨rfl, hbn⟩
    replace hb := seqB hb hbn
    replace ho := ho.below hbn
    replace hbox := be_box hbox hbn
    replace hoG := hoG.below hbn
    clear hbn
    (try clear g0 g1 g2)
    obtain ⟨g0, g1, g2⟩ := cells3 hbox.out
    generalize peakV s r l xs ts = V at *
    go_wp2_with fail
    refine (implPP _ _ _ s r l (p + 1) xs _ rfl hn (by omega) ho.rd).mono ?_
    rintro e w5 ⟨BH, dH, rfl, hoH, hbn⟩
    replace hb := seqB hb hbn
    replace ho := ho.below hbn
    replace hbox := be_box hbox hbn
    replace hoG := hoG.below hbn
    clear hbn
    (try clear g0 g1 g2)
    obtain ⟨g0, g1, g2⟩ := cells3 hbox.out
    go_wp2_with fail
    go_ret
    exact ⟨ret_bool (by simp), hb⟩
end Go.Proofs.YtjlbhpogmjjbiaaDoor.lPP
