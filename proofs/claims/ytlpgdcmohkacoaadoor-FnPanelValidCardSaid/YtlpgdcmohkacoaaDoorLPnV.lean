/- The walk of FnPanelValid: it returns true, and writes nothing that was there. -/
import Derived.Test.YtlpgdcmohkacoaaDoorPanH
import Derived.Test.YtlpgdcmohkacoaaDoorLawI
namespace Go.Proofs.YtlpgdcmohkacoaaDoor.lPnV
open Go.RowKit Go.Proofs.YtlpgdcmohkacoaaDoor

set_option maxRecDepth 100000 in
set_option maxHeartbeats 4000000 in
theorem walk (w : World) (A : Option Addr) (m c : Nat) (hc : m ≤ c) (hm : m ≤ maxLen) (hA : RdB w A m) :
    Calls Tryd.prog 3 #[.slice A m c] w fun e w' => e = .returned (.bool true) ∧ Below w.heap.size w w' := by
  unfold maxLen at hm
  by_cases hs : m ≤ 1048576
  case neg =>
    go_enter Tryd.func3, Tryd.ntmps3
    go_wp2_with fail
    go_ret
    exact ⟨rfl, Below.refl _ _⟩
  have HA := Lib.hid hA; clear hA
  have hb : Below w.heap.size w w := Below.refl _ _
  go_enter Tryd.func3, Tryd.ntmps3
  go_wp2_with fail
  refine (dDrawPanelValid A m c w hc hs HA.out).mono ?_
  rintro e w1 ⟨on, who, i, tb, left, B, n, d, rfl, hn, hn10, ho, hbn⟩
  replace hb := seqB hb hbn
  clear hbn
  have HN := Lib.hid hn
  have hra := rd_of_row ho
  have hm20 : n ≤ 1048576 := by omega
  clear hn ho
  have hbox := new_box w1 (.cells #[.slice B n d, .int .i64 who, .int .i64 i, .bool tb, .int .i64 left] 25)
  have g0 : (w1.alloc (.cells #[.slice B n d, .int .i64 who, .int .i64 i, .bool tb, .int .i64 left] 25)).cell? ⟨w1.heap.size, 0, none⟩ = some (.slice B n d) := box_cell hbox 0
  have g1 : (w1.alloc (.cells #[.slice B n d, .int .i64 who, .int .i64 i, .bool tb, .int .i64 left] 25)).cell? ⟨w1.heap.size, 1, none⟩ = some (.int .i64 who) := box_cell hbox 1
  have g2 : (w1.alloc (.cells #[.slice B n d, .int .i64 who, .int .i64 i, .bool tb, .int .i64 left] 25)).cell? ⟨w1.heap.size, 2, none⟩ = some (.int .i64 i) := box_cell hbox 2
  have g3 : (w1.alloc (.cells #[.slice B n d, .int .i64 who, .int .i64 i, .bool tb, .int .i64 left] 25)).cell? ⟨w1.heap.size, 3, none⟩ = some (.bool tb) := box_cell hbox 3
  have g4 : (w1.alloc (.cells #[.slice B n d, .int .i64 who, .int .i64 i, .bool tb, .int .i64 left] 25)).cell? ⟨w1.heap.size, 4, none⟩ = some (.int .i64 left) := box_cell hbox 4
  have hb1 := allocB hb (.cells #[.slice B n d, .int .i64 who, .int .i64 i, .bool tb, .int .i64 left] 25)
  have hra1 := hra.below (allocB (Below.refl w1.heap.size w1) (.cells #[.slice B n d, .int .i64 who, .int .i64 i, .bool tb, .int .i64 left] 25))
  go_wp2_with fail
  replace hb := hb1; replace hra := hra1; clear hb1 hra1
  refine (implPnV B n d on who i tb left _ HN.out hm20 hra).mono ?_
  rintro e w2 ⟨rfl, hbn⟩
  replace hb := seqB hb hbn
  replace hbox := be_box hbox hbn
  replace hra := hra.below hbn
  clear hbn
  clear g0 g1 g2 g3 g4
  have g0 : w2.cell? ⟨w1.heap.size, 0, none⟩ = some (.slice B n d) := box_cell hbox 0
  have g1 : w2.cell? ⟨w1.heap.size, 1, none⟩ = some (.int .i64 who) := box_cell hbox 1
  have g2 : w2.cell? ⟨w1.heap.size, 2, none⟩ = some (.int .i64 i) := box_cell hbox 2
  have g3 : w2.cell? ⟨w1.heap.size, 3, none⟩ = some (.bool tb) := box_cell hbox 3
  have g4 : w2.cell? ⟨w1.heap.size, 4, none⟩ = some (.int .i64 left) := box_cell hbox 4
  cases hv : panB on who i tb left with
  | false =>
    go_wp2_with fail
    refine (specPnV B n d on who i tb left _ HN.out hm20 hra).mono ?_
    rintro e w3 ⟨rfl, hbn⟩
    replace hb := seqB hb hbn
    replace hbox := be_box hbox hbn
    replace hra := hra.below hbn
    clear hbn
    rw [hv]
    clear g0 g1 g2 g3 g4
    have g0 : w3.cell? ⟨w1.heap.size, 0, none⟩ = some (.slice B n d) := box_cell hbox 0
    have g1 : w3.cell? ⟨w1.heap.size, 1, none⟩ = some (.int .i64 who) := box_cell hbox 1
    have g2 : w3.cell? ⟨w1.heap.size, 2, none⟩ = some (.int .i64 i) := box_cell hbox 2
    have g3 : w3.cell? ⟨w1.heap.size, 3, none⟩ = some (.bool tb) := box_cell hbox 3
    have g4 : w3.cell? ⟨w1.heap.size, 4, none⟩ = some (.int .i64 left) := box_cell hbox 4
    go_wp2_with fail
    refine (implPnV none 0 0 [] (-1) 0 false 0 _ rfl (by omega) Rd.nil).mono ?_
    rintro e w4 ⟨rfl, hbn⟩
    replace hb := seqB hb hbn
    replace hbox := be_box hbox hbn
    replace hra := hra.below hbn
    clear hbn
    have e2 : panB [] (-1) 0 false 0 = false := rfl
    rw [e2]
    clear g0 g1 g2 g3 g4
    clear e2 hra hbox
    go_wp2_with fail
    refine (aliveC _).mono ?_
    rintro e w5 ⟨rfl, hbn⟩
    replace hb := seqB hb hbn
    clear hbn
    go_wp2_with fail
    go_ret
    exact ⟨ret_bool (by simp), hb⟩
  | true =>
    go_wp2_with fail
    refine (specPnV B n d on who i tb left _ HN.out hm20 hra).mono ?_
    rintro e w3 ⟨rfl, hbn⟩
    replace hb := seqB hb hbn
    replace hbox := be_box hbox hbn
    replace hra := hra.below hbn
    clear hbn
    rw [hv]
    clear g0 g1 g2 g3 g4
    have g0 : w3.cell? ⟨w1.heap.size, 0, none⟩ = some (.slice B n d) := box_cell hbox 0
    have g1 : w3.cell? ⟨w1.heap.size, 1, none⟩ = some (.int .i64 who) := box_cell hbox 1
    have g2 : w3.cell? ⟨w1.heap.size, 2, none⟩ = some (.int .i64 i) := box_cell hbox 2
    have g3 : w3.cell? ⟨w1.heap.size, 3, none⟩ = some (.bool tb) := box_cell hbox 3
    have g4 : w3.cell? ⟨w1.heap.size, 4, none⟩ = some (.int .i64 left) := box_cell hbox 4
    go_wp2_with fail
    refine (implPnV B n d on (-1) 0 false 0 _ HN.out hm20 hra).mono ?_
    rintro e w4 ⟨rfl, hbn⟩
    replace hb := seqB hb hbn
    replace hbox := be_box hbox hbn
    replace hra := hra.below hbn
    clear hbn
    have e1 : panB on (-1) 0 false 0 = true := pan_clr (pan_ln hv)
    rw [e1]
    clear g0 g1 g2 g3 g4
    clear e1
    have g0 : w4.cell? ⟨w1.heap.size, 0, none⟩ = some (.slice B n d) := box_cell hbox 0
    have g1 : w4.cell? ⟨w1.heap.size, 1, none⟩ = some (.int .i64 who) := box_cell hbox 1
    have g2 : w4.cell? ⟨w1.heap.size, 2, none⟩ = some (.int .i64 i) := box_cell hbox 2
    have g3 : w4.cell? ⟨w1.heap.size, 3, none⟩ = some (.bool tb) := box_cell hbox 3
    have g4 : w4.cell? ⟨w1.heap.size, 4, none⟩ = some (.int .i64 left) := box_cell hbox 4
    go_wp2_with fail
    refine (implPnV none 0 0 [] (-1) 0 false 0 _ rfl (by omega) Rd.nil).mono ?_
    rintro e w5 ⟨rfl, hbn⟩
    replace hb := seqB hb hbn
    replace hbox := be_box hbox hbn
    replace hra := hra.below hbn
    clear hbn
    have e2 : panB [] (-1) 0 false 0 = false := rfl
    rw [e2]
    clear g0 g1 g2 g3 g4
    clear e2 hra hbox
    go_wp2_with fail
    refine (aliveC _).mono ?_
    rintro e w6 ⟨rfl, hbn⟩
    replace hb := seqB hb hbn
    clear hbn
    go_wp2_with fail
    go_ret
    exact ⟨ret_bool (by simp), hb⟩
end Go.Proofs.YtlpgdcmohkacoaaDoor.lPnV
