/- The walk of FnLeastPeak: it returns true, and writes nothing that was there. -/
import Derived.Test.YtjlbhpogmjjbiaaDoorDrS
import Derived.Test.YtjlbhpogmjjbiaaDoorLawI
import Derived.Test.YtjlbhpogmjjbiaaDoorBatM
import Derived.Test.YtjlbhpogmjjbiaaDoorBatN
namespace Go.Proofs.YtjlbhpogmjjbiaaDoor.lLP
open Go.RowKit Go.Proofs.YtjlbhpogmjjbiaaDoor

set_option maxHeartbeats 4000000 in
theorem walk (w : World) (A : Option Addr) (m c : Nat) (hc : m ≤ c) (hm : m ≤ maxLen) (hA : RdB w A m) (A' : Option Addr) (m' c' : Nat) (hc' : m' ≤ c') (hm' : m' ≤ maxLen) (hA' : RdB w A' m') :
    Calls Tryd.prog 7 #[.slice A m c, .slice A' m' c'] w fun e w' => e = .returned (.bool true) ∧ Below w.heap.size w w' := by
  unfold maxLen at hm hm'
  by_cases hs : m ≤ 1048576
  case neg =>
    go_enter Tryd.func7, Tryd.ntmps7
    go_wp2_with fail
    go_ret
    exact ⟨rfl, Below.refl _ _⟩
  by_cases hs' : m' ≤ 1048576
  case neg =>
    go_enter Tryd.func7, Tryd.ntmps7
    go_wp2_with fail
    go_ret
    exact ⟨rfl, Below.refl _ _⟩
  have HA := Lib.hid hA; clear hA
  have HA' := Lib.hid hA'; clear hA'
  have hb : Below w.heap.size w w := Below.refl _ _
  go_enter Tryd.func7, Tryd.ntmps7
  go_wp2_with fail
  refine (dDrawLeastPeak A m c w hc hs HA.out).mono ?_
  rintro e w1 ⟨s, r, l, xs, B, d1, rfl, hlx, hoX, hbn⟩
  replace hb := seqB hb hbn
  clear hbn
  have hn : xs.length ≤ 1048576 := by omega
  clear hlx
  have hbox := new_box w1 (.cells #[.int .i64 s, .int .i64 r, .int .i64 l] 24)
  replace hb := allocB hb (.cells #[.int .i64 s, .int .i64 r, .int .i64 l] 24)
  replace hoX := hoX.below (allocB (Below.refl _ _) (.cells #[.int .i64 s, .int .i64 r, .int .i64 l] 24))
  go_wp2_with fail
  refine (implLP _ _ _ s r l xs _ rfl hn hoX.rd).mono ?_
  rintro e w2 ⟨rfl, hbn⟩
  replace hb := seqB hb hbn
  replace hoX := hoX.below hbn
  replace hbox := be_box hbox hbn
  clear hbn
  (try clear g0 g1 g2)
  obtain ⟨g0, g1, g2⟩ := cells3 hbox.out
  have HK := Lib.hid (least_law2 s r l xs)
  generalize hV : leastV s r l xs = V at *
  have HV := Lib.hid hV; clear hV
  have hne : (V != V) = false := by simp
  go_wp2_with fail
  refine (specLP _ _ _ s r l xs _ rfl hn hoX.rd).mono ?_
  rintro e w3 ⟨rfl, hbn⟩
  replace hb := seqB hb hbn
  replace hoX := hoX.below hbn
  replace hbox := be_box hbox hbn
  clear hbn
  (try clear g0 g1 g2)
  obtain ⟨g0, g1, g2⟩ := cells3 hbox.out
  rw [HV.out]
  clear g0 g1 g2
  go_wp2_with fail
  refine (dDrawPeakOf A' m' c' _ hc' hs' (rdb_below HA'.out hb)).mono ?_
  rintro e w4 ⟨s2, r2, l2, xs2, ys2, B2, C2, d2, d3, rfl, hl2, hl3, hoY, hoZ, hbn⟩
  replace hb := seqB hb hbn
  replace hoX := hoX.below hbn
  replace hbox := be_box hbox hbn
  clear hbn
  have hn2 : xs2.length ≤ 1048576 := by omega
  have hn3 : ys2.length ≤ 1048576 := by omega
  clear hl2 hl3
  have hbox2 := new_box w4 (.cells #[.int .i64 s2, .int .i64 r2, .int .i64 l2] 24)
  replace hb := allocB hb (.cells #[.int .i64 s2, .int .i64 r2, .int .i64 l2] 24)
  replace hoX := hoX.below (allocB (Below.refl _ _) (.cells #[.int .i64 s2, .int .i64 r2, .int .i64 l2] 24))
  replace hoY := hoY.below (allocB (Below.refl _ _) (.cells #[.int .i64 s2, .int .i64 r2, .int .i64 l2] 24))
  replace hoZ := hoZ.below (allocB (Below.refl _ _) (.cells #[.int .i64 s2, .int .i64 r2, .int .i64 l2] 24))
  replace hbox := al_box hbox (.cells #[.int .i64 s2, .int .i64 r2, .int .i64 l2] 24)
  go_wp2_with fail
  refine (implPO _ _ _ _ _ _ s2 r2 l2 xs2 ys2 _ rfl rfl hn2 hn3 hoY.rd hoZ.rd).mono ?_
  rintro e w5 ⟨rfl, hbn⟩
  replace hb := seqB hb hbn
  replace hoX := hoX.below hbn
  replace hbox := be_box hbox hbn
  replace hoY := hoY.below hbn
  replace hoZ := hoZ.below hbn
  replace hbox2 := be_box hbox2 hbn
  clear hbn
  obtain ⟨g0, g1, g2⟩ := cells3 hbox.out
  obtain ⟨j0, j1, j2⟩ := cells3 hbox2.out
  have HK1 := Lib.hid (least_law1 s2 r2 l2 xs2 ys2)
  generalize peakV s2 r2 l2 xs2 ys2 = P at *
  by_cases hP : 0 ≤ P
  · skip
    have hPl := HK1.out hP
    clear HK1
    go_wp2_with fail
    refine (implLP _ _ _ s2 r2 l2 xs2 _ rfl hn2 hoY.rd).mono ?_
    rintro e w6 ⟨rfl, hbn⟩
    replace hb := seqB hb hbn
    replace hoX := hoX.below hbn
    replace hbox := be_box hbox hbn
    replace hoY := hoY.below hbn
    replace hoZ := hoZ.below hbn
    replace hbox2 := be_box hbox2 hbn
    clear hbn
    clear j0 j1 j2
    generalize leastV s2 r2 l2 xs2 = L at *
    (try clear g0 g1 g2)
    obtain ⟨g0, g1, g2⟩ := cells3 hbox.out
    rcases HK.out with rfl | ⟨hV0, hV1, hsome, hnone⟩
    · skip
      go_wp2_with fail
      refine (aliveC _).mono ?_
      rintro e w7 ⟨rfl, hbn⟩
      replace hb := seqB hb hbn
      replace hoX := hoX.below hbn
      replace hbox := be_box hbox hbn
      replace hoY := hoY.below hbn
      replace hoZ := hoZ.below hbn
      replace hbox2 := be_box hbox2 hbn
      clear hbn
      go_wp2_with fail
      go_ret
      exact ⟨rfl, hb⟩
    · skip
      clear HK
      go_wp2_with fail
      refine (implPP _ _ _ s r l V xs _ rfl hn (by omega) hoX.rd).mono ?_
      rintro e w7 ⟨BG, dG, rfl, _, hbn⟩
      replace hb := seqB hb hbn
      replace hoX := hoX.below hbn
      replace hbox := be_box hbox hbn
      replace hoY := hoY.below hbn
      replace hoZ := hoZ.below hbn
      replace hbox2 := be_box hbox2 hbn
      clear hbn
      (try clear g0 g1 g2)
      obtain ⟨g0, g1, g2⟩ := cells3 hbox.out
      go_wp2_with fail
      refine (implPP _ _ _ s r l (V - 1) xs _ rfl hn (by omega) hoX.rd).mono ?_
      rintro e w8 ⟨BH, dH, rfl, _, hbn⟩
      replace hb := seqB hb hbn
      replace hoX := hoX.below hbn
      replace hbox := be_box hbox hbn
      replace hoY := hoY.below hbn
      replace hoZ := hoZ.below hbn
      replace hbox2 := be_box hbox2 hbn
      clear hbn
      (try clear g0 g1 g2)
      obtain ⟨g0, g1, g2⟩ := cells3 hbox.out
      go_wp2_with fail
      go_ret
      exact ⟨rfl, hb⟩
  · skip
    clear HK1 j0 j1 j2
    (try clear g0 g1 g2)
    obtain ⟨g0, g1, g2⟩ := cells3 hbox.out
    rcases HK.out with rfl | ⟨hV0, hV1, hsome, hnone⟩
    · skip
      go_wp2_with fail
      refine (aliveC _).mono ?_
      rintro e w6 ⟨rfl, hbn⟩
      replace hb := seqB hb hbn
      replace hoX := hoX.below hbn
      replace hbox := be_box hbox hbn
      replace hoY := hoY.below hbn
      replace hoZ := hoZ.below hbn
      replace hbox2 := be_box hbox2 hbn
      clear hbn
      go_wp2_with fail
      go_ret
      exact ⟨rfl, hb⟩
    · skip
      clear HK
      go_wp2_with fail
      refine (implPP _ _ _ s r l V xs _ rfl hn (by omega) hoX.rd).mono ?_
      rintro e w6 ⟨BG, dG, rfl, _, hbn⟩
      replace hb := seqB hb hbn
      replace hoX := hoX.below hbn
      replace hbox := be_box hbox hbn
      replace hoY := hoY.below hbn
      replace hoZ := hoZ.below hbn
      replace hbox2 := be_box hbox2 hbn
      clear hbn
      (try clear g0 g1 g2)
      obtain ⟨g0, g1, g2⟩ := cells3 hbox.out
      go_wp2_with fail
      refine (implPP _ _ _ s r l (V - 1) xs _ rfl hn (by omega) hoX.rd).mono ?_
      rintro e w7 ⟨BH, dH, rfl, _, hbn⟩
      replace hb := seqB hb hbn
      replace hoX := hoX.below hbn
      replace hbox := be_box hbox hbn
      replace hoY := hoY.below hbn
      replace hoZ := hoZ.below hbn
      replace hbox2 := be_box hbox2 hbn
      clear hbn
      (try clear g0 g1 g2)
      obtain ⟨g0, g1, g2⟩ := cells3 hbox.out
      go_wp2_with fail
      go_ret
      exact ⟨rfl, hb⟩
end Go.Proofs.YtjlbhpogmjjbiaaDoor.lLP
