/- The walk of FnExactPollValid: it returns true, and writes nothing that was there. -/
import Derived.Test.YthekihggedgofaaMxPoll
import Derived.Test.YthekihggedgofaaPolE
import Derived.Deep.RegionHeld3
namespace Go.Proofs.Ythekihggedgofaa.exPV
open Go.RowKit Go.Proofs.Ythekihggedgofaa

set_option maxHeartbeats 2000000 in
theorem walk (w : World) (z0 : Int) (A1 : Option Addr) (n1 c1 : Nat) (x1 : List Int) (hn1 : x1.length = n1) (hm1 : n1 ≤ maxLen) (hA1 : Rd w A1 (ints x1)) (z2 : Int) (A3 : Option Addr) (n3 c3 : Nat) (x3 : List Int) (hn3 : x3.length = n3) (hm3 : n3 ≤ maxLen) (hA3 : Rd w A3 (ints x3)) (z4 : Int) (z5 : Int) (z6 : Int) (z7 : Int) :
    Calls Try.prog 3 #[.agg #[.int .i64 z0, .slice A1 n1 c1, .int .i64 z2, .slice A3 n3 c3, .int .i64 z4, .int .i64 z5, .int .i64 z6, .int .i64 z7]] w fun e w' => e = .returned (.bool true) ∧ Below w.heap.size w w' := by
  have HA1 := Lib.hid hA1; clear hA1
  have HN1 := Lib.hid hn1; clear hn1
  have HA3 := Lib.hid hA3; clear hA3
  have HN3 := Lib.hid hn3; clear hn3
  have hb : Below w.heap.size w (w.alloc (.cells #[.int .i64 z0, .slice A1 n1 c1, .int .i64 z2, .slice A3 n3 c3, .int .i64 z4, .int .i64 z5, .int .i64 z6, .int .i64 z7] 24)) := allocB (Below.refl _ _) _
  have hbox : Hid ((w.alloc (.cells #[.int .i64 z0, .slice A1 n1 c1, .int .i64 z2, .slice A3 n3 c3, .int .i64 z4, .int .i64 z5, .int .i64 z6, .int .i64 z7] 24)).heap[w.heap.size]? = some (.cells #[.int .i64 z0, .slice A1 n1 c1, .int .i64 z2, .slice A3 n3 c3, .int .i64 z4, .int .i64 z5, .int .i64 z6, .int .i64 z7] 24 (0, 0))) := heap_alloc_new w _
  have hz_hbox : w.heap.size < (w.alloc (.cells #[.int .i64 z0, .slice A1 n1 c1, .int .i64 z2, .slice A3 n3 c3, .int .i64 z4, .int .i64 z5, .int .i64 z6, .int .i64 z7] 24)).heap.size := by simp
  by_cases hs : n1 + n3 ≤ 1048576
  case neg =>
    go_enter Try.func3, Try.ntmps3
    go_wp2_with fail
    refine (szPoll_no z0 A1 n1 c1 x1 z2 A3 n3 c3 x3 z4 z5 z6 z7 _ hs hm1 hm3).mono ?_
    rintro e w1 ⟨rfl, hbn⟩
    go_wp2_with fail
    go_ret
    exact ⟨rfl, seqB hb hbn⟩
  have hs1 : n1 ≤ 1048576 := by omega
  have hs3 : n3 ≤ 1048576 := by omega
  clear hm1 hm3
  go_enter Try.func3, Try.ntmps3
  go_wp2_with fail
  refine (szPoll_ok z0 A1 n1 c1 x1 z2 A3 n3 c3 x3 z4 z5 z6 z7 _ hs).mono ?_
  rintro e w1 ⟨⟨zl, rfl, hzl⟩, hbn⟩
  replace hb := seqB hb hbn
  replace hbox := Lib.hid ((hbn.block _ hz_hbox).trans hbox.out)
  replace hz_hbox := Nat.lt_of_lt_of_le hz_hbox hbn.size
  clear hbn
  have hl : ¬ (zl < 0) := by omega
  have g0 := box_cell hbox 0
  have g1 := box_cell hbox 1
  have g2 := box_cell hbox 2
  have g3 := box_cell hbox 3
  have g4 := box_cell hbox 4
  have g5 := box_cell hbox 5
  have g6 := box_cell hbox 6
  have g7 := box_cell hbox 7
  simp at g0 g1 g2 g3 g4 g5 g6 g7
  go_wp2_with fail
  refine (toPoll_any z0 A1 n1 c1 x1 z2 A3 n3 c3 x3 z4 z5 z6 z7 _ HN1.out hs1 (HA1.out.below hb) HN3.out hs3 (HA3.out.below hb)).mono ?_
  rintro e w2 ⟨Bho1, Bho3, bsho, rfl, ho1, ho3, hleho, hltho, hbn⟩
  replace hb := seqB hb hbn
  replace hbox := Lib.hid ((hbn.block _ hz_hbox).trans hbox.out)
  replace hz_hbox := Nat.lt_of_lt_of_le hz_hbox hbn.size
  clear hbn
  clear g0 g1 g2 g3 g4 g5 g6 g7
  go_wp2_with fail
  refine (specPV z0 Bho1 n1 n1 x1 z2 Bho3 n3 n3 x3 z4 z5 z6 z7 _ HN1.out hs1 ho1.rd HN3.out hs3 ho3.rd).mono ?_
  rintro e w3 ⟨rfl, hbn⟩
  replace hb := seqB hb hbn
  replace hbox := Lib.hid ((hbn.block _ hz_hbox).trans hbox.out)
  replace hz_hbox := Nat.lt_of_lt_of_le hz_hbox hbn.size
  replace ho1 := ho1.below hbn
  replace ho3 := ho3.below hbn
  clear hbn
  clear ho1 ho3
  have g0 := box_cell hbox 0
  have g1 := box_cell hbox 1
  have g2 := box_cell hbox 2
  have g3 := box_cell hbox 3
  have g4 := box_cell hbox 4
  have g5 := box_cell hbox 5
  have g6 := box_cell hbox 6
  have g7 := box_cell hbox 7
  simp at g0 g1 g2 g3 g4 g5 g6 g7
  go_wp2_with fail
  refine (toPoll_any z0 A1 n1 c1 x1 z2 A3 n3 c3 x3 z4 z5 z6 z7 _ HN1.out hs1 (HA1.out.below hb) HN3.out hs3 (HA3.out.below hb)).mono ?_
  rintro e w4 ⟨Bhox1, Bhox3, bshox, rfl, hox1, hox3, hlehox, hlthox, hbn⟩
  replace hb := seqB hb hbn
  replace hbox := Lib.hid ((hbn.block _ hz_hbox).trans hbox.out)
  replace hz_hbox := Nat.lt_of_lt_of_le hz_hbox hbn.size
  clear hbn
  clear g0 g1 g2 g3 g4 g5 g6 g7
  go_wp2_with fail
  have hbo : Below w4.heap.size w4 (w4.alloc (.cells #[.int .i64 z0, .slice Bhox1 n1 n1, .int .i64 z2, .slice Bhox3 n3 n3, .int .i64 z4, .int .i64 z5, .int .i64 z6, .int .i64 z7] 27)) := allocB (Below.refl _ _) _
  have hxb : Hid ((w4.alloc (.cells #[.int .i64 z0, .slice Bhox1 n1 n1, .int .i64 z2, .slice Bhox3 n3 n3, .int .i64 z4, .int .i64 z5, .int .i64 z6, .int .i64 z7] 27)).heap[w4.heap.size]? = some (.cells #[.int .i64 z0, .slice Bhox1 n1 n1, .int .i64 z2, .slice Bhox3 n3 n3, .int .i64 z4, .int .i64 z5, .int .i64 z6, .int .i64 z7] 27 (0, 0))) := heap_alloc_new w4 _
  have hz_hxb : w4.heap.size < (w4.alloc (.cells #[.int .i64 z0, .slice Bhox1 n1 n1, .int .i64 z2, .slice Bhox3 n3 n3, .int .i64 z4, .int .i64 z5, .int .i64 z6, .int .i64 z7] 27)).heap.size := by simp
  replace hb := seqB hb hbo
  replace hbox := Lib.hid ((hbo.block _ hz_hbox).trans hbox.out)
  replace hz_hbox := Nat.lt_of_lt_of_le hz_hbox hbo.size
  replace hox1 := hox1.below hbo
  replace hox3 := hox3.below hbo
  clear hbo
  refine (implPV z0 Bhox1 n1 n1 x1 z2 Bhox3 n3 n3 x3 z4 z5 z6 z7 _ HN1.out hs1 hox1.rd HN3.out hs3 hox3.rd (own_none hox1) (own_none hox3)).mono ?_
  rintro e w5 ⟨rfl, hbn⟩
  replace hb := seqB hb hbn
  replace hbox := Lib.hid ((hbn.block _ hz_hbox).trans hbox.out)
  replace hz_hbox := Nat.lt_of_lt_of_le hz_hbox hbn.size
  replace hox1 := hox1.below hbn
  replace hox3 := hox3.below hbn
  replace hxb := Lib.hid ((hbn.block _ hz_hxb).trans hxb.out)
  replace hz_hxb := Nat.lt_of_lt_of_le hz_hxb hbn.size
  clear hbn
  generalize (pollB z0 z2 z4 z5 z6 z7 x1 x3) = V at *
  have hne : (V != V) = false := by simp
  have g0 := box_cell hbox 0
  have g1 := box_cell hbox 1
  have g2 := box_cell hbox 2
  have g3 := box_cell hbox 3
  have g4 := box_cell hbox 4
  have g5 := box_cell hbox 5
  have g6 := box_cell hbox 6
  have g7 := box_cell hbox 7
  simp at g0 g1 g2 g3 g4 g5 g6 g7
  have x_0 := box_cell hxb 0
  have x_1 := box_cell hxb 1
  have x_2 := box_cell hxb 2
  have x_3 := box_cell hxb 3
  have x_4 := box_cell hxb 4
  have x_5 := box_cell hxb 5
  have x_6 := box_cell hxb 6
  have x_7 := box_cell hxb 7
  simp at x_0 x_1 x_2 x_3 x_4 x_5 x_6 x_7
  go_wp2_with fail
  replace hb := drew1B hb
  replace hox1 : Own w5.drew _ _ _ _ _ _ := hox1
  replace hox3 : Own w5.drew _ _ _ _ _ _ := hox3
  go_region_held3 (fun W => W.cell? ⟨w.heap.size, 0, none⟩ = some (.int .i64 z0) ∧ W.cell? ⟨w.heap.size, 1, none⟩ = some (.slice A1 n1 c1) ∧ W.cell? ⟨w.heap.size, 2, none⟩ = some (.int .i64 z2) ∧ W.cell? ⟨w.heap.size, 3, none⟩ = some (.slice A3 n3 c3) ∧ W.cell? ⟨w.heap.size, 4, none⟩ = some (.int .i64 z4) ∧ W.cell? ⟨w.heap.size, 5, none⟩ = some (.int .i64 z5) ∧ W.cell? ⟨w.heap.size, 6, none⟩ = some (.int .i64 z6) ∧ W.cell? ⟨w.heap.size, 7, none⟩ = some (.int .i64 z7) ∧ W.cell? ⟨w4.heap.size, 0, none⟩ = some (.int .i64 z0) ∧ W.cell? ⟨w4.heap.size, 1, none⟩ = some (.slice Bhox1 n1 n1) ∧ W.cell? ⟨w4.heap.size, 2, none⟩ = some (.int .i64 z2) ∧ W.cell? ⟨w4.heap.size, 3, none⟩ = some (.slice Bhox3 n3 n3) ∧ W.cell? ⟨w4.heap.size, 4, none⟩ = some (.int .i64 z4) ∧ W.cell? ⟨w4.heap.size, 5, none⟩ = some (.int .i64 z5) ∧ W.cell? ⟨w4.heap.size, 6, none⟩ = some (.int .i64 z6) ∧ W.cell? ⟨w4.heap.size, 7, none⟩ = some (.int .i64 z7)) (first | go_keep | (go_split_ands; refine ⟨?_, ?_, ?_, ?_, ?_, ?_, ?_, ?_, ?_, ?_, ?_, ?_, ?_, ?_, ?_, ?_⟩ <;> go_keep) | (go_split_ands; refine ⟨?_, ?_, ?_, ?_, ?_, ?_, ?_, ?_, ?_, ?_, ?_, ?_, ?_, ?_, ?_, ?_⟩ <;> exact keepC (by assumption) hbq) | (go_split_ands; refine ⟨?_, ?_, ?_, ?_, ?_, ?_, ?_, ?_, ?_, ?_, ?_, ?_, ?_, ?_, ?_, ?_⟩ <;> exact keepC (by assumption) hbr)) (first | (go_at_call 7; refine (toPoll_any z0 A1 n1 c1 x1 z2 A3 n3 c3 x3 z4 z5 z6 z7 _ HN1.out hs1 (HA1.out.below hb) HN3.out hs3 (HA3.out.below hb)).mono ?_; rintro e wq ⟨Bhoy1, Bhoy3, bshoy, rfl, hoy1, hoy3, hlehoy, hlthoy, hbq⟩) | (go_at_call 9; refine (eqPoll_same z0 _ _ n1 n1 n1 x1 z2 _ _ n3 n3 n3 x3 z4 z5 z6 z7 _ HN1.out hs1 (hox1.below hbq).rd HN3.out hs3 (hox3.below hbq).rd hoy1.rd hoy3.rd).mono ?_; rintro e wr ⟨rfl, hbr⟩))
  go_wp2_with fail
  go_ret
  exact ⟨rfl, seqB (seqB hb hbq) hbr⟩
end Go.Proofs.Ythekihggedgofaa.exPV
