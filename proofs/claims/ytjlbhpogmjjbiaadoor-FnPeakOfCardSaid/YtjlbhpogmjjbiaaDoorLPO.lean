/- The walk of FnPeakOf: it returns true, and writes nothing that was there. -/
import Derived.Test.YtjlbhpogmjjbiaaDoorDrS
import Derived.Test.YtjlbhpogmjjbiaaDoorLawI
import Derived.Test.YtjlbhpogmjjbiaaDoorBatM
import Derived.Test.YtjlbhpogmjjbiaaDoorBatN
namespace Go.Proofs.YtjlbhpogmjjbiaaDoor.lPO
open Go.RowKit Go.Proofs.YtjlbhpogmjjbiaaDoor

set_option maxHeartbeats 2000000 in
theorem walk (w : World) (A : Option Addr) (m c : Nat) (hc : m ≤ c) (hm : m ≤ maxLen) (hA : RdB w A m) :
    Calls Tryd.prog 5 #[.slice A m c] w fun e w' => e = .returned (.bool true) ∧ Below w.heap.size w w' := by
  unfold maxLen at hm
  by_cases hs : m ≤ 1048576
  case neg =>
    go_enter Tryd.func5, Tryd.ntmps5
    go_wp2_with fail
    go_ret
    exact ⟨rfl, Below.refl _ _⟩
  have HA := Lib.hid hA; clear hA
  have hb : Below w.heap.size w w := Below.refl _ _
  go_enter Tryd.func5, Tryd.ntmps5
  go_wp2_with fail
  refine (dDrawPeakOf A m c w hc hs HA.out).mono ?_
  rintro e w1 ⟨s, r, l, xs, ys, B, C, d1, d2, rfl, hlx, hly, hoX, hoY, hbn⟩
  replace hb := seqB hb hbn
  clear hbn
  have hn : xs.length ≤ 1048576 := by omega
  have hn' : ys.length ≤ 1048576 := by omega
  clear hlx hly
  have hbox := new_box w1 (.cells #[.int .i64 s, .int .i64 r, .int .i64 l] 24)
  replace hb := allocB hb (.cells #[.int .i64 s, .int .i64 r, .int .i64 l] 24)
  replace hoX := hoX.below (allocB (Below.refl _ _) (.cells #[.int .i64 s, .int .i64 r, .int .i64 l] 24))
  replace hoY := hoY.below (allocB (Below.refl _ _) (.cells #[.int .i64 s, .int .i64 r, .int .i64 l] 24))
  go_wp2_with fail
  refine (implPO _ _ _ _ _ _ s r l xs ys _ rfl rfl hn hn' hoX.rd hoY.rd).mono ?_
  rintro e w2 ⟨rfl, hbn⟩
  replace hb := seqB hb hbn
  replace hoX := hoX.below hbn
  replace hoY := hoY.below hbn
  replace hbox := be_box hbox hbn
  clear hbn
  (try clear g0 g1 g2)
  obtain ⟨g0, g1, g2⟩ := cells3 hbox.out
  have HK := Lib.hid (peak_law s r l xs ys)
  have HVb := Lib.hid (peak_bd s r l xs ys)
  generalize hV : peakV s r l xs ys = V at *
  have HV := Lib.hid hV; clear hV
  have hne : (V != V) = false := by simp
  go_wp2_with fail
  refine (specPO _ _ _ _ _ _ s r l xs ys _ rfl rfl hn hn' hoX.rd hoY.rd).mono ?_
  rintro e w3 ⟨rfl, hbn⟩
  replace hb := seqB hb hbn
  replace hoX := hoX.below hbn
  replace hoY := hoY.below hbn
  replace hbox := be_box hbox hbn
  clear hbn
  (try clear g0 g1 g2)
  obtain ⟨g0, g1, g2⟩ := cells3 hbox.out
  rw [HV.out]
  clear g0 g1 g2
  rcases HK.out with rfl | ⟨hV0, hlen, h12, hall, hsome⟩
  · skip
    go_wp2_with fail
    refine (aliveC _).mono ?_
    rintro e w4 ⟨rfl, hbn⟩
    replace hb := seqB hb hbn
    replace hoX := hoX.below hbn
    replace hoY := hoY.below hbn
    replace hbox := be_box hbox hbn
    clear hbn
    go_wp2_with fail
    go_ret
    exact ⟨rfl, hb⟩
  · skip
    have HS := Lib.hid hsome; clear hsome
    have HE := Lib.hid hall; clear hall
    have HLn := Lib.hid hlen; clear hlen HK
    generalize hN : xs.length = n at *
    have HN := Lib.hid hN; clear hN
    go_wp2_with fail
    go_loopw [7, 8] (fun q i wr => ∃ (k : Nat) (b : Bool), k ≤ n ∧ i = .int .i64 k ∧ q = .bool b ∧ Hid (b = (V == 0 || (List.range k).any fun j => xs.getD j 0 + ys.getD j 0 == V)) ∧ Below w3.heap.size w3 wr) (fun _ i _ => n - (intOf i).toNat)
    case atStart => exact ⟨0, _, by omega, rfl, rfl, by simp [Hid], Below.refl _ _⟩
    case round =>
      obtain ⟨k, b, hk, rfl, rfl, hp, hbw⟩ := hrel
      by_cases hlt : k < n
      · obtain ⟨b1, o1, rfl, _, hc1⟩ := (hoX.rd.below hbw).int (k := k) (by have := HN.out; omega)
        obtain ⟨b2, o2, rfl, _, hc2⟩ := (hoY.rd.below hbw).int (k := k) (by have := HLn.out; omega)
        obtain ⟨h1, h2⟩ := HE.out k hlt
        have HA1 : Hid ((List.range (k + 1)).any (fun j => xs.getD j 0 + ys.getD j 0 == V) = ((List.range k).any (fun j => xs.getD j 0 + ys.getD j 0 == V) || (xs.getD k 0 + ys.getD k 0 == V))) := any_range_succ
        generalize xs.getD k 0 = x at *
        generalize ys.getD k 0 = y at *
        have hi0 : (0 : Int) ≤ (k : Int) := Int.natCast_nonneg _
        have hi1 : (k : Int) < (n : Int) := by omega
        have hi2 : (k : Int) < (ys.length : Int) := by have := HLn.out; omega
        have hgt : decide (V < x + y) = false := by simp; omega
        have hVb := HVb.out
        go_wp2_with fail
        have wr1 : IntKind.i64.wrap (x + y) = x + y := IntWalk.i64_in _ (by omega)
        go_quiet (fail)
        clear wr1
        replace hc1 : (wr.drewN nq).cell? _ = _ := hc1
        replace hc2 : (wr.drewN nq).cell? _ = _ := hc2
        replace hbw := drewNB hbw nq
        generalize wr.drewN nq = wr at *
        cases b with
        | true =>
          go_wp2_with fail
          go_quiet (fail)
          go_wp2_with fail
          go_roundw
          case rel => exact ⟨k + 1, true, by omega, by go_num, rfl, by rw [Hid, HA1.out, ← Bool.or_assoc, ← hp.out]; rfl, drewNB hbw _⟩
          case measure => simp [intOf]; omega
        | false =>
          cases he : (x + y == V) with
          | true =>
            go_wp2_with fail
            have wr1 : IntKind.i64.wrap (x + y) = x + y := IntWalk.i64_in _ (by omega)
            go_quiet (fail)
            clear wr1
            go_wp2_with fail
            go_roundw
            case rel => exact ⟨k + 1, true, by omega, by go_num, rfl, by rw [Hid, HA1.out, ← Bool.or_assoc, ← hp.out, he]; rfl, drewNB hbw _⟩
            case measure => simp [intOf]; omega
          | false =>
            go_wp2_with fail
            have wr1 : IntKind.i64.wrap (x + y) = x + y := IntWalk.i64_in _ (by omega)
            go_quiet (fail)
            clear wr1
            go_wp2_with fail
            go_roundw
            case rel => exact ⟨k + 1, false, by omega, by go_num, rfl, by rw [Hid, HA1.out, ← Bool.or_assoc, ← hp.out, he]; rfl, drewNB hbw _⟩
            case measure => simp [intOf]; omega
      · go_wp2_with fail
        go_ret
        have hkn : k = n := by omega
        exact ⟨ret_bool (by rw [hp.out, hkn]; exact HS.out), seqB hb hbw⟩
end Go.Proofs.YtjlbhpogmjjbiaaDoor.lPO
