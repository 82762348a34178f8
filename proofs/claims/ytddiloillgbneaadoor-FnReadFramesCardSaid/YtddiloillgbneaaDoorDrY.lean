/- Contracts of the functions that draw streams of frames: a list of some numbers; nothing is said of its values. No statement is proved here. -/
import Derived.Test.YtddiloillgbneaaDoorDrF
import Derived.Test.YtddiloillgbneaaDoorFrB
import Derived.Test.YtddiloillgbneaaDoorFrmQ
namespace Go.Proofs.YtddiloillgbneaaDoor
open Go.RowKit

theorem lit6 {w : World} {g i : Nat} {a b c d e f : Int} {T : TypeId} (h : Hid (w.heap[g]? = some (.cells #[.int .i64 a, .int .i64 b, .int .i64 c, .int .i64 d, .int .i64 e, .int .i64 f] T (0, 0)))) (hi : i < 6) : ∃ v : Int, w.cell? ⟨g, i, none⟩ = some (.int .i64 v) := by
  rw [box_cell h]
  obtain rfl | rfl | rfl | rfl | rfl | rfl : i = 0 ∨ i = 1 ∨ i = 2 ∨ i = 3 ∨ i = 4 ∨ i = 5 := by omega
  all_goals exact ⟨_, rfl⟩
theorem mul19 {a k : Nat} (h : a + 19 * k ≤ 57) (hk : 0 < k) : a + 19 * (k - 1) + 19 ≤ 57 := by omega

set_option maxRecDepth 100000 in
set_option maxHeartbeats 4000000 in
theorem drStream (R f : Nat) (w : World) (hr : Rdr w R f) (hf : f ≤ 800000) :
    Calls Tryd.prog 33 #[.pointer (some ⟨R, 0, none⟩)] w (DrI 57 R (f + 90) w) := by
  have HL := Lib.hid hr.lt
  have HR := Lib.hid hr; clear hr
  have HG := Lib.hid (gr_refl w R)
  obtain ⟨i0, hi0, hz0, hz1, hz2⟩ := info_parts info_int
  have HI := Lib.hid (And.intro hi0 (And.intro hz0 (And.intro hz1 hz2))); clear hi0 hz0 hz1 hz2
  go_enter Tryd.func33, Tryd.ntmps33
  have hown : (w.alloc (.cells #[] 3)).ownsRow w.heap.size 3 1 (.slice (some ⟨w.heap.size, 0, none⟩) 0 0) 0 (ints []) := World.ownsRow_lit w #[] 0 (Nat.le_refl _) (Nat.zero_le _) rfl
  replace HR := Lib.hid (rdr_alloc HR.out (.cells #[] 3))
  replace HG := Lib.hid (gr_alloc HG.out (.cells #[] 3))
  go_wp2_with fail
  refine (pickC R _ 4 _ HR.out (by omega) (by omega)).mono ?_
  rintro e w1 ⟨x1, rfl, hx1, hR, hg⟩
  replace hown := row_dr hown hg HL.out
  replace HR := Lib.hid hR
  replace HG := Lib.hid (HG.out.trans hg)
  clear hR hg
  go_wp2_with fail
  go_loopw [3, 4] (fun v i wr => ∃ (k : Nat) (acc : List Int), k ≤ 3 ∧ i = .int .i64 k ∧ acc.length + 19 * k ≤ 57 ∧ (∃ B c', v = .slice B acc.length c' ∧ Hid (wr.ownsRow w.heap.size 3 1 (.slice B acc.length c') acc.length (ints acc))) ∧ Hid (Rdr wr R (f + 1 + 26 * (3 - k))) ∧ Hid (w.grownBy wr (some R))) (fun _ i _ => (intOf i).toNat)
  case atStart => exact ⟨x1, [], by omega, rfl, by simp; omega, ⟨_, _, rfl, hown⟩, Lib.hid (HR.out.mono (by omega)), HG⟩
  case round =>
    clear HR HG hown hx1
    obtain ⟨k, acc, hk, rfl, hacc, ⟨B, c', rfl, HW⟩, HR, HG⟩ := hrel
    by_cases hlt : 0 < k
    · have hm := mul19 hacc hlt
      have hFr : f + 1 + 26 * (3 - k) + 25 ≤ f + 1 + 26 * (3 - (k - 1)) := by omega
      have hFb : f + 1 + 26 * (3 - (k - 1)) ≤ f + 79 := by omega
      generalize hF : f + 1 + 26 * (3 - k) = F at *
      generalize hF2 : f + 1 + 26 * (3 - (k - 1)) = F2 at *
      have HF2 := Lib.hid hF2
      clear hF hF2 hacc
      go_wp2_with fail
      refine (pickC R _ 6 _ HR.out (by omega) (by omega)).mono ?_
      rintro e w2 ⟨x2, rfl, hx2, hR, hg⟩
      replace HW := Lib.hid (row_dr HW.out hg HL.out)
      replace HR := Lib.hid hR
      replace HG := Lib.hid (HG.out.trans hg)
      clear hR hg
      go_wp2_with fail
      go_loopw [3, 5] (fun v i wr => ∃ (j : Int) (acc : List Int), -3 ≤ j ∧ j ≤ 2 ∧ i = .int .i64 j ∧ acc.length + j.toNat + 19 * (k - 1) + 17 ≤ 57 ∧ (∃ B c', v = .slice B acc.length c' ∧ Hid (wr.ownsRow w.heap.size 3 1 (.slice B acc.length c') acc.length (ints acc))) ∧ Hid (Rdr wr R (F + 1 + 2 * (2 - j.toNat))) ∧ Hid (w.grownBy wr (some R))) (fun _ i _ => (intOf i).toNat)
      case atStart => exact ⟨(x2 : Int) - 3, acc, by omega, by omega, rfl, by omega, ⟨_, _, rfl, HW⟩, Lib.hid (HR.out.mono (by omega)), HG⟩
      case round =>
        clear HR HG HW hx2 hm
        obtain ⟨j, acc, hj0, hj2, rfl, hacc, ⟨B, c', rfl, HW⟩, HR, HG⟩ := hrel
        by_cases hj : 0 < j
        · have hjt : (j - 1).toNat + 1 = j.toNat := by omega
          have hjt2 : j.toNat ≤ 2 := by omega
          have hgt : decide ((0 : Int) < j) = true := by simp; omega
          go_wp2_with fail
          refine (pickC R _ 256 _ HR.out (by omega) (by omega)).mono ?_
          rintro e w3 ⟨x, rfl, hx, hR, hg⟩
          replace HW := Lib.hid ((row_dr HW.out hg HL.out).alloc (.cells #[.int .i64 104, .int .i64 0, .int .i64 1, .int .i64 (x : Int), .int .i64 256, .int .i64 (-1)] 3))
          replace HR := Lib.hid (rdr_alloc hR (.cells #[.int .i64 104, .int .i64 0, .int .i64 1, .int .i64 (x : Int), .int .i64 256, .int .i64 (-1)] 3))
          replace HG := Lib.hid (gr_alloc (HG.out.trans hg) (.cells #[.int .i64 104, .int .i64 0, .int .i64 1, .int .i64 (x : Int), .int .i64 256, .int .i64 (-1)] 3))
          have hlt3 := hR.lt
          clear hR hg hx
          go_wp2_with fail
          refine (pickC R _ 6 _ HR.out (by omega) (by omega)).mono ?_
          rintro e w4 ⟨y, rfl, hy, hR, hg⟩
          obtain ⟨v, hv⟩ := lit6 (dr_box (new_box w3 (.cells #[.int .i64 104, .int .i64 0, .int .i64 1, .int .i64 (x : Int), .int .i64 256, .int .i64 (-1)] 3)) hg (by omega)) (show y < 6 by omega)
          have hown := row_dr HW.out hg HL.out
          replace HR := Lib.hid hR
          replace HG := Lib.hid (HG.out.trans hg)
          clear hR hg HW
          have hy6 : (y : Int) < 6 := by omega
          clear hy
          go_wp2_with (at_builtin; refine wpList_app1 w4 rfl _ _ _ rfl w.heap.size 3 i0 _ 1 8 Tryd.underlying23 HI.out rfl (by omega) (.slice B acc.length c') acc.length (ints acc) rfl hown #[.int .i64 v] rfl rfl (by simp [Value.oneCell']) (by omega) (by omega) HG.out.size ?_; intro v' w9 hown9 hg9)
          have HR9 := Lib.hid (rdr_row HR.out hown hg9 HL.out)
          have HG9 := Lib.hid (gr_row HG.out hown hg9 (Nat.le_refl _))
          have hsn := snoc_ints hown9 rfl
          clear hg9 hown hown9 hv
          go_roundw
          case rel => exact ⟨j - 1, acc ++ [v], by omega, by omega, rfl, by simp; omega, hsn, Lib.hid (HR9.out.mono (by omega)), HG9⟩
          case measure => simp [intOf]; omega
        · have hgt : decide ((0 : Int) < j) = false := by simp; omega
          have hj0' : j.toNat = 0 := by omega
          rw [hj0'] at hacc
          replace HR := Lib.hid (HR.out.mono (show F + 1 + 2 * (2 - j.toNat) ≤ F + 5 by omega))
          clear hj0'
          go_wp2_with fail
          refine (drFrame R (F + 5) 0 _ HR.out (by omega) (by omega) (by omega)).mono ?_
          rintro e w3 ⟨a, l, B2, c2, rfl, hl13, hF2', ho2, hR, hg⟩
          replace HW := Lib.hid (row_dr HW.out hg HL.out)
          replace HR := Lib.hid hR
          replace HG := Lib.hid (HG.out.trans hg)
          clear hR hg
          go_wp2_with fail
          refine (specFBr a B2 l.length c2 l _ rfl (by omega) ho2.rd (fun e => fm_nil hF2' e)).mono ?_
          rintro e w4 ⟨B3, c3, rfl, hr3, hbn⟩
          replace HW := Lib.hid (row_below HW.out hbn)
          replace HR := Lib.hid (HR.out.below hbn)
          replace HG := Lib.hid (HG.out.trans (grown_of_below hbn))
          have hfl := frmBytes_len a l
          generalize frmBytes a l = FB at *
          have hrd3 := rd_of_row hr3
          have hnil3 := Lib.hid (row_none hr3)
          have hown := HW.out
          clear hbn hr3 ho2 HW hF2'
          go_wp2_with (at_builtin; refine wpList_appN w4 rfl _ _ _ rfl w.heap.size 3 i0 _ 1 8 Tryd.underlying23 HI.out rfl (by omega) (.slice B acc.length c') acc.length (ints acc) rfl hown B3 FB.length c3 (ints FB) rfl (by rw [ints_length]; omega) hrd3 hnil3.out (ints_one _) (by omega) (by omega) HG.out.size ?_; intro v' w9 hown9 hg9)
          have HR9 := Lib.hid (row_rdr HR.out hown hg9 HL.out)
          have HG9 := Lib.hid (row_gr HG.out hown hg9 (Nat.le_refl _))
          obtain ⟨B9, c9, rfl, hr9⟩ := row_is (n' := (acc ++ FB).length) (cs' := ints (acc ++ FB)) hown9 (by simp) (ints_app _ _)
          have HW9 := Lib.hid hr9
          clear hg9 hown hown9 hrd3 hr9
          have hk1 : ((k - 1 : Nat) : Int) = (k : Int) - 1 := by omega
          go_roundw
          case rel => exact ⟨k - 1, acc ++ FB, by omega, by rw [hk1], by simp; omega, ⟨_, _, rfl, HW9⟩, Lib.hid (HR9.out.mono (by have := HF2.out; omega)), HG9⟩
          case measure => simp [intOf]; omega
    · have hk0 : k = 0 := by omega
      subst hk0
      replace HR := Lib.hid (HR.out.mono (show f + 1 + 26 * (3 - 0) ≤ f + 80 by omega))
      by_cases ha : 0 < acc.length
      case neg =>
        have hown := HW.out
        have hacc0 : (acc.length : Int) ≤ 0 := by omega
        go_wp2_with fail
        go_ret
        exact ⟨acc, B, c', rfl, by omega, row_fm hown, row_own hown, HR.out.mono (by omega), HG.out⟩
      case pos =>
        have hapos : (0 : Int) < (acc.length : Int) := by omega
        go_wp2_with fail
        refine (pickC R _ 3 _ HR.out (by omega) (by omega)).mono ?_
        rintro e w2 ⟨x2, rfl, hx2, hR, hg⟩
        replace HW := Lib.hid (row_dr HW.out hg HL.out)
        replace HR := Lib.hid hR
        replace HG := Lib.hid (HG.out.trans hg)
        clear hR hg
        cases e0 : ((x2 : Int) == 0) with
        | false =>
          go_wp2_with fail
          go_ret
          exact ⟨acc, B, c', rfl, by omega, row_fm HW.out, row_own HW.out, HR.out.mono (by omega), HG.out⟩
        | true =>
          go_wp2_with fail
          refine (pickC R _ acc.length _ HR.out (by omega) (by omega)).mono ?_
          rintro e w3 ⟨i, rfl, hi, hR, hg⟩
          replace HW := Lib.hid (row_dr HW.out hg HL.out)
          replace HR := Lib.hid hR
          replace HG := Lib.hid (HG.out.trans hg)
          clear hR hg
          go_wp2_with fail
          refine (pickC R _ 256 _ HR.out (by omega) (by omega)).mono ?_
          rintro e w4 ⟨v, rfl, hv, hR, hg⟩
          replace HW := Lib.hid (row_dr HW.out hg HL.out)
          replace HR := Lib.hid hR
          replace HG := Lib.hid (HG.out.trans hg)
          clear hR hg hv
          have hil : i < acc.length := by omega
          have hown := row_own HW.out
          have hfm := row_fm HW.out
          obtain ⟨g, rfl, hge, _⟩ := hown.form ha
          have hf0 := hown.frozen ha i
          obtain ⟨u0, hu0⟩ := hown.has ha i (by omega)
          have hset := hown.set i (.int .i64 (v : Int))
          have HS : Hid ((ints acc).set i (.int .i64 (v : Int)) = ints (acc.set i (v : Int))) := by rw [Hid]; simp [ints, List.map_set]
          have HO := Lib.hid hset
          have HLS : Hid ((acc.set i (v : Int)).length = acc.length) := by rw [Hid]; simp
          have hil' : (i : Int) < (acc.length : Int) := by omega
          replace HR := Lib.hid (rdr_set HR.out i (.int .i64 (v : Int)) (show R < g by have := HL.out; omega))
          replace HG := Lib.hid (gr_set HG.out i (.int .i64 (v : Int)) hge)
          clear hown HW hset hi
          go_wp2_with fail
          go_ret
          exact ⟨acc.set i (v : Int), some ⟨g, 0, none⟩, c', by rw [HLS.out]; rfl, by rw [HLS.out]; omega, by rw [HLS.out]; exact hfm, by rw [HLS.out, ← HS.out]; exact HO.out, HR.out.mono (by omega), HG.out⟩
def DrSt (m : Nat) (w : World) (e : Ending) (w' : World) : Prop :=
  ∃ (l : List Int) (B : Option Addr) (c : Nat), e = .returned (.slice B l.length c) ∧ l.length ≤ m ∧ Fm B l.length c ∧ Own w' w.heap.size 3 1 B l.length (ints l) ∧ Below w.heap.size w w'
set_option maxHeartbeats 1000000 in
theorem dDrawReadFrames (A : Option Addr) (m c : Nat) (w : World) (hc : m ≤ c) (hm : m ≤ 1048576) (hA : RdB w A m) : Calls Tryd.prog 19 #[.slice A m c] w (DrSt 80 w) := by
  have HB := Lib.hid hA; clear hA
  go_enter Tryd.func19, Tryd.ntmps19
  go_wp2_with fail
  refine (openC _ _ _ _ hc hm HB.out).mono ?_
  rintro e w1 ⟨rfl, hR, hbn⟩
  have HR := Lib.hid hR; clear hR
  have hz := hbn.size
  generalize hRe : w.heap.size = R at *
  go_wp2_with fail
  refine (drStream R 0 _ HR.out (by omega)).mono ?_
  rintro e w2 ⟨l, B, c2, rfl, hl, hF, ho, hR, hg⟩
  go_wp2_with fail
  go_ret
  refine ⟨l, B, c2, rfl, by omega, hF, ho.mono (by omega), ?_⟩
  have h := gr_below (a := w) (by rw [hRe]; exact hbn) hg (by omega)
  rwa [hRe] at h ⊢
set_option maxHeartbeats 1000000 in
theorem dDrawReadFrame (A : Option Addr) (m c : Nat) (w : World) (hc : m ≤ c) (hm : m ≤ 1048576) (hA : RdB w A m) : Calls Tryd.prog 17 #[.slice A m c] w (DrSt 80 w) := by
  have HB := Lib.hid hA; clear hA
  obtain ⟨i0, hi0, hz0, hz1, hz2⟩ := info_parts info_int
  have HI := Lib.hid (And.intro hi0 (And.intro hz0 (And.intro hz1 hz2))); clear hi0 hz0 hz1 hz2
  go_enter Tryd.func17, Tryd.ntmps17
  go_wp2_with fail
  refine (openC _ _ _ _ hc hm HB.out).mono ?_
  rintro e w1 ⟨rfl, hR, hbn⟩
  have HR := Lib.hid hR; clear hR
  have HG := Lib.hid hbn; clear hbn
  obtain ⟨R, hRe⟩ : ∃ R, R = w.heap.size := ⟨_, rfl⟩
  rw [← hRe] at HR ⊢
  have HRE := Lib.hid hRe; clear hRe HB
  go_wp2_with fail
  refine (pickC R _ 3 _ HR.out (by omega) (by omega)).mono ?_
  rintro e w2 ⟨x, rfl, hx, hR, hg⟩
  replace HR := Lib.hid hR
  replace HG := Lib.hid (gr_below HG.out hg (by have := HRE.out; omega))
  clear hR hg
  have HGz := HG.out.size
  cases e0 : ((x : Int) == 0) with
  | true =>
    go_wp2_with fail
    refine (drStream R _ _ HR.out (by omega)).mono ?_
    rintro e w3 ⟨l, B, c2, rfl, hl, hF, ho, hR, hg⟩
    replace HG := Lib.hid (gr_below HG.out hg (by have := HRE.out; omega))
    clear hR hg
    have HO := Lib.hid (ho.mono HGz)
    go_wp2_with fail
    go_ret
    exact ⟨l, B, c2, rfl, by omega, hF, HO.out, HG.out⟩
  | false =>
    have hlt := HR.out.lt
    go_wp2_with fail
    refine (drFrame R _ 0 _ HR.out (by omega) (by omega) (by omega)).mono ?_
    rintro e w3 ⟨a, l, B2, c2, rfl, hl13, hF2, ho2, hR, hg⟩
    replace HR := Lib.hid hR
    replace HG := Lib.hid (gr_below HG.out hg (by have := HRE.out; omega))
    have hlt3 : R < w3.heap.size := by have := hg.size; omega
    have HGz3 := HG.out.size
    clear hR hg hlt
    go_wp2_with fail
    refine (specFBr a B2 l.length c2 l _ rfl (by omega) ho2.rd (fun e => fm_nil hF2 e)).mono ?_
    rintro e w4 ⟨B3, c3, rfl, hr3, hbn⟩
    replace HR := Lib.hid (HR.out.below hbn)
    replace HG := Lib.hid (seqB HG.out hbn)
    have hfl := frmBytes_len a l
    generalize frmBytes a l = FB at *
    clear hbn ho2 hF2
    go_wp2_with fail
    refine (drStream R _ _ HR.out (by omega)).mono ?_
    rintro e w5 ⟨l5, B5, c5, rfl, hl5, hF5, ho5, hR, hg⟩
    have hrow := row_mono (base' := w.heap.size) (row_dr hr3 hg hlt3) HGz3
    replace HG := Lib.hid (gr_below HG.out hg (by have := HRE.out; omega))
    have hrd5 := ho5.rd
    have HF5 := Lib.hid hF5
    clear hR hg hr3 ho5 hF5
    go_wp2_with (at_builtin; refine wpList_appN w5 rfl _ _ _ rfl w.heap.size 3 i0 _ 1 8 Tryd.underlying23 HI.out rfl (by omega) (.slice B3 FB.length c3) FB.length (ints FB) rfl hrow B5 l5.length c5 (ints l5) rfl (by rw [ints_length]; omega) hrd5 (fun e => fm_nil HF5.out e) (ints_one _) (by omega) (by omega) HG.out.size ?_; intro v' w9 hown9 hg9)
    have HG9 := Lib.hid (grown_row HG.out rfl hrow hg9)
    obtain ⟨B9, c9, rfl, hr9⟩ := row_is (n' := (FB ++ l5).length) (cs' := ints (FB ++ l5)) hown9 (by simp) (ints_app _ _)
    clear hg9 hown9 hrow hrd5
    go_ret
    exact ⟨FB ++ l5, B9, c9, rfl, by simp; omega, row_fm hr9, row_own hr9, HG9.out⟩
end Go.Proofs.YtddiloillgbneaaDoor
