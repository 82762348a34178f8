/- The walk of FnExactPanelValid: it returns true, and writes nothing that was there. -/
import Derived.Test.YtonhlefjhpeccaaMxPanel
import Derived.Test.YtonhlefjhpeccaaPanC
import Derived.Deep.RegionHeld3
namespace Go.Proofs.Ytonhlefjhpeccaa.exPnV
open Go.RowKit Go.Proofs.Ytonhlefjhpeccaa

set_option maxHeartbeats 2000000 in
theorem walk (w : World) (A0 : Option Addr) (n0 c0 : Nat) (x0 : List Bool) (hn0 : x0.length = n0) (hm0 : n0 ≤ maxLen) (hA0 : Rd w A0 (bools x0)) (z1 : Int) (z2 : Int) (z3 : Bool) (z4 : Int) :
    Calls Try.prog 3 #[.agg #[.slice A0 n0 c0, .int .i64 z1, .int .i64 z2, .bool z3, .int .i64 z4]] w fun e w' => e = .returned (.bool true) ∧ Below w.heap.size w w' := by
  have HA0 := Lib.hid hA0; clear hA0
  have HN0 := Lib.hid hn0; clear hn0
  have hb : Below w.heap.size w (w.alloc (.cells #[.slice A0 n0 c0, .int .i64 z1, .int .i64 z2, .bool z3, .int .i64 z4] 24)) := allocB (Below.refl _ _) _
  have hbox : Hid ((w.alloc (.cells #[.slice A0 n0 c0, .int .i64 z1, .int .i64 z2, .bool z3, .int .i64 z4] 24)).heap[w.heap.size]? = some (.cells #[.slice A0 n0 c0, .int .i64 z1, .int .i64 z2, .bool z3, .int .i64 z4] 24 (0, 0))) := heap_alloc_new w _
  have hz_hbox : w.heap.size < (w.alloc (.cells #[.slice A0 n0 c0, .int .i64 z1, .int .i64 z2, .bool z3, .int .i64 z4] 24)).heap.size := by simp
  by_cases hs : n0 ≤ 1048576
  case neg =>
    go_enter Try.func3, Try.ntmps3
    go_wp2_with fail
    refine (szPanel_no A0 n0 c0 x0 z1 z2 z3 z4 _ hs hm0).mono ?_
    rintro e w1 ⟨rfl, hbn⟩
    go_wp2_with fail
    go_ret
    exact ⟨rfl, seqB hb hbn⟩
  have hs0 : n0 ≤ 1048576 := by omega
  clear hm0
  go_enter Try.func3, Try.ntmps3
  go_wp2_with fail
  refine (szPanel_ok A0 n0 c0 x0 z1 z2 z3 z4 _ hs).mono ?_
  rintro e w1 ⟨⟨zl, rfl, hzl⟩, hbn⟩
  replace hb := seqB hb hbn
  replace hbox := Lib.hid ((hbn.block _ hz_hbox).trans hbox.out)
  replace hz_hbox := Nat.lt_of_lt_of_le hz_hbox hbn.size
  clear hbn
  have hl : ¬ (zl < 0) := by omega
  have g0 := box_cell hbox 0
  have g1 := box_cell hbox 1
  have g2 := box_cell hbox 2
  have g3 := box_cell hbox 3
  have g4 := box_cell hbox 4
  simp at g0 g1 g2 g3 g4
  go_wp2_with fail
  refine (toPanel_any A0 n0 c0 x0 z1 z2 z3 z4 _ HN0.out hs0 (HA0.out.below hb)).mono ?_
  rintro e w2 ⟨Bho0, rfl, ho0, hbn⟩
  replace hb := seqB hb hbn
  replace hbox := Lib.hid ((hbn.block _ hz_hbox).trans hbox.out)
  replace hz_hbox := Nat.lt_of_lt_of_le hz_hbox hbn.size
  clear hbn
  clear g0 g1 g2 g3 g4
  go_wp2_with fail
  refine (specPnV Bho0 n0 n0 x0 z1 z2 z3 z4 _ HN0.out hs0 ho0.rd).mono ?_
  rintro e w3 ⟨rfl, hbn⟩
  replace hb := seqB hb hbn
  replace hbox := Lib.hid ((hbn.block _ hz_hbox).trans hbox.out)
  replace hz_hbox := Nat.lt_of_lt_of_le hz_hbox hbn.size
  replace ho0 := ho0.below hbn
  clear hbn
  clear ho0
  have g0 := box_cell hbox 0
  have g1 := box_cell hbox 1
  have g2 := box_cell hbox 2
  have g3 := box_cell hbox 3
  have g4 := box_cell hbox 4
  simp at g0 g1 g2 g3 g4
  go_wp2_with fail
  refine (toPanel_any A0 n0 c0 x0 z1 z2 z3 z4 _ HN0.out hs0 (HA0.out.below hb)).mono ?_
  rintro e w4 ⟨Bhox0, rfl, hox0, hbn⟩
  replace hb := seqB hb hbn
  replace hbox := Lib.hid ((hbn.block _ hz_hbox).trans hbox.out)
  replace hz_hbox := Nat.lt_of_lt_of_le hz_hbox hbn.size
  clear hbn
  clear g0 g1 g2 g3 g4
  go_wp2_with fail
  have hbo : Below w4.heap.size w4 (w4.alloc (.cells #[.slice Bhox0 n0 n0, .int .i64 z1, .int .i64 z2, .bool z3, .int .i64 z4] 27)) := allocB (Below.refl _ _) _
  have hxb : Hid ((w4.alloc (.cells #[.slice Bhox0 n0 n0, .int .i64 z1, .int .i64 z2, .bool z3, .int .i64 z4] 27)).heap[w4.heap.size]? = some (.cells #[.slice Bhox0 n0 n0, .int .i64 z1, .int .i64 z2, .bool z3, .int .i64 z4] 27 (0, 0))) := heap_alloc_new w4 _
  have hz_hxb : w4.heap.size < (w4.alloc (.cells #[.slice Bhox0 n0 n0, .int .i64 z1, .int .i64 z2, .bool z3, .int .i64 z4] 27)).heap.size := by simp
  replace hb := seqB hb hbo
  replace hbox := Lib.hid ((hbo.block _ hz_hbox).trans hbox.out)
  replace hz_hbox := Nat.lt_of_lt_of_le hz_hbox hbo.size
  replace hox0 := hox0.below hbo
  clear hbo
  refine (implPnV Bhox0 n0 n0 x0 z1 z2 z3 z4 _ HN0.out hs0 hox0.rd).mono ?_
  rintro e w5 ⟨rfl, hbn⟩
  replace hb := seqB hb hbn
  replace hbox := Lib.hid ((hbn.block _ hz_hbox).trans hbox.out)
  replace hz_hbox := Nat.lt_of_lt_of_le hz_hbox hbn.size
  replace hox0 := hox0.below hbn
  replace hxb := Lib.hid ((hbn.block _ hz_hxb).trans hxb.out)
  replace hz_hxb := Nat.lt_of_lt_of_le hz_hxb hbn.size
  clear hbn
  generalize panB x0 z1 z2 z3 z4 = V at *
  have hne : (V != V) = false := by simp
  have g0 := box_cell hbox 0
  have g1 := box_cell hbox 1
  have g2 := box_cell hbox 2
  have g3 := box_cell hbox 3
  have g4 := box_cell hbox 4
  simp at g0 g1 g2 g3 g4
  have x_0 := box_cell hxb 0
  have x_1 := box_cell hxb 1
  have x_2 := box_cell hxb 2
  have x_3 := box_cell hxb 3
  have x_4 := box_cell hxb 4
  simp at x_0 x_1 x_2 x_3 x_4
  go_wp2_with fail
  replace hb := drew1B hb
  replace hox0 : Own w5.drew _ _ _ _ _ _ := hox0
  go_region_held3 (fun W => W.cell? ⟨w.heap.size, 0, none⟩ = some (.slice A0 n0 c0) ∧ W.cell? ⟨w.heap.size, 1, none⟩ = some (.int .i64 z1) ∧ W.cell? ⟨w.heap.size, 2, none⟩ = some (.int .i64 z2) ∧ W.cell? ⟨w.heap.size, 3, none⟩ = some (.bool z3) ∧ W.cell? ⟨w.heap.size, 4, none⟩ = some (.int .i64 z4) ∧ W.cell? ⟨w4.heap.size, 0, none⟩ = some (.slice Bhox0 n0 n0) ∧ W.cell? ⟨w4.heap.size, 1, none⟩ = some (.int .i64 z1) ∧ W.cell? ⟨w4.heap.size, 2, none⟩ = some (.int .i64 z2) ∧ W.cell? ⟨w4.heap.size, 3, none⟩ = some (.bool z3) ∧ W.cell? ⟨w4.heap.size, 4, none⟩ = some (.int .i64 z4)) (first | go_keep | (go_split_ands; refine ⟨?_, ?_, ?_, ?_, ?_, ?_, ?_, ?_, ?_, ?_⟩ <;> go_keep) | (go_split_ands; refine ⟨?_, ?_, ?_, ?_, ?_, ?_, ?_, ?_, ?_, ?_⟩ <;> exact keepC (by assumption) hbq) | (go_split_ands; refine ⟨?_, ?_, ?_, ?_, ?_, ?_, ?_, ?_, ?_, ?_⟩ <;> exact keepC (by assumption) hbr)) (first | (go_at_call 6; refine (toPanel_any A0 n0 c0 x0 z1 z2 z3 z4 _ HN0.out hs0 (HA0.out.below hb)).mono ?_; rintro e wq ⟨Bhoy0, rfl, hoy0, hbq⟩) | (go_at_call 8; refine (eqPanel_same _ _ n0 n0 n0 x0 z1 z2 z3 z4 _ HN0.out hs0 (hox0.below hbq).rd hoy0.rd).mono ?_; rintro e wr ⟨rfl, hbr⟩))
  go_wp2_with fail
  go_ret
  exact ⟨rfl, seqB (seqB hb hbq) hbr⟩
end Go.Proofs.Ytonhlefjhpeccaa.exPnV
