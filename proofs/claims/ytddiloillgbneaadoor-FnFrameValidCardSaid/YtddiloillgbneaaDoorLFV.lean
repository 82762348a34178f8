/- The walk of FnFrameValid: it returns true, and writes nothing that was there. -/
import Derived.Test.YtddiloillgbneaaDoorDrV
import Derived.Test.YtddiloillgbneaaDoorLawI
namespace Go.Proofs.YtddiloillgbneaaDoor.lFV
open Go.RowKit Go.Proofs.YtddiloillgbneaaDoor

set_option maxRecDepth 100000 in
set_option maxHeartbeats 4000000 in
theorem walk (w : World) (A : Option Addr) (m c : Nat) (hc : m ≤ c) (hm : m ≤ maxLen) (hA : RdB w A m) :
    Calls Tryd.prog 3 #[.slice A m c] w fun e w' => e = .returned (.bool true) ∧ Below w.heap.size w w' := by
  unfold maxLen at hm
  by_cases hs : m ≤ 1048576
  case neg =>
    go_enter Tryd.func3, Tryd.ntmps3
    go_wp2_with fail
    go_ret
    exact ⟨rfl, Below.refl _ _⟩
  have HA := Lib.hid hA; clear hA
  have hb : Below w.heap.size w w := Below.refl _ _
  go_enter Tryd.func3, Tryd.ntmps3
  go_wp2_with fail
  refine (dDrawFrameValid A m c w hc hs HA.out).mono ?_
  rintro e w1 ⟨a, l, B, d, rfl, hl, hF, ho, hbn⟩
  replace hb := seqB hb hbn
  clear hbn
  have hn : l.length ≤ 1048576 := by omega
  have hbox : Hid ((w1.alloc (.cells #[.int .i64 a, .slice B l.length d] 25)).heap[w1.heap.size]? = some (.cells #[.int .i64 a, .slice B l.length d] 25 (0, 0))) := new_box w1 (.cells #[.int .i64 a, .slice B l.length d] 25)
  have g0 : (w1.alloc (.cells #[.int .i64 a, .slice B l.length d] 25)).cell? ⟨w1.heap.size, 0, none⟩ = some (.int .i64 a) := box_cell hbox 0
  have g1 : (w1.alloc (.cells #[.int .i64 a, .slice B l.length d] 25)).cell? ⟨w1.heap.size, 1, none⟩ = some (.slice B l.length d) := box_cell hbox 1
  have hb1 := allocB hb (.cells #[.int .i64 a, .slice B l.length d] 25)
  have ho1 := ho.below (allocB (Below.refl w1.heap.size w1) (.cells #[.int .i64 a, .slice B l.length d] 25))
  go_wp2_with fail
  replace hb := hb1; replace ho := ho1; clear hb1 ho1
  refine (implFV a _ _ _ l _ rfl hn ho.rd).mono ?_
  rintro e w2 ⟨rfl, hbn⟩
  replace hb := seqB hb hbn
  replace ho := ho.below hbn
  replace hbox := be_box hbox hbn
  clear hbn
  clear g0 g1
  have g0 : w2.cell? ⟨w1.heap.size, 0, none⟩ = some (.int .i64 a) := box_cell hbox 0
  have g1 : w2.cell? ⟨w1.heap.size, 1, none⟩ = some (.slice B l.length d) := box_cell hbox 1
  cases hv : frmB a l with
  | false =>
    go_wp2_with fail
    refine (specFV a _ _ _ l _ rfl hn ho.rd).mono ?_
    rintro e w3 ⟨rfl, hbn⟩
    replace hb := seqB hb hbn
    replace ho := ho.below hbn
    replace hbox := be_box hbox hbn
    clear hbn
    rw [hv]
    clear g0 g1
    have g0 : w3.cell? ⟨w1.heap.size, 0, none⟩ = some (.int .i64 a) := box_cell hbox 0
    have g1 : w3.cell? ⟨w1.heap.size, 1, none⟩ = some (.slice B l.length d) := box_cell hbox 1
    have hlit := new_box w3 (.cells #[.int .i64 256] 3)
    have hb1 := allocB hb (.cells #[.int .i64 256] 3)
    have hr1 : Rd (w3.alloc (.cells #[.int .i64 256] 3)) (some ⟨w3.heap.size, 0, none⟩) (ints [256]) := rd_new w3 #[.int .i64 256] 3
    go_wp2_with fail
    replace hb := hb1
    clear hb1 hlit ho hbox g0 g1
    refine (implFV a _ _ _ [256] _ rfl (by simp) hr1).mono ?_
    rintro e w4 ⟨rfl, hbn⟩
    replace hb := seqB hb hbn
    clear hbn
    have e2 : frmB a [256] = false := by cases h : frmB a [256] with | false => rfl | true => exact absurd ((frmB_iff a [256]).1 h).2.2 (by decide)
    rw [e2]
    clear hr1
    go_wp2_with fail
    refine (aliveC _).mono ?_
    rintro e w5 ⟨rfl, hbn⟩
    replace hb := seqB hb hbn
    clear hbn
    go_wp2_with fail
    go_ret
    exact ⟨ret_bool (by simp), hb⟩
  | true =>
    go_wp2_with fail
    refine (specFV a _ _ _ l _ rfl hn ho.rd).mono ?_
    rintro e w3 ⟨rfl, hbn⟩
    replace hb := seqB hb hbn
    replace ho := ho.below hbn
    replace hbox := be_box hbox hbn
    clear hbn
    rw [hv]
    clear g0 g1
    have g0 : w3.cell? ⟨w1.heap.size, 0, none⟩ = some (.int .i64 a) := box_cell hbox 0
    have g1 : w3.cell? ⟨w1.heap.size, 1, none⟩ = some (.slice B l.length d) := box_cell hbox 1
    go_wp2_with fail
    refine (implFV a none 0 0 [] _ rfl (by omega) Rd.nil).mono ?_
    rintro e w4 ⟨rfl, hbn⟩
    replace hb := seqB hb hbn
    replace ho := ho.below hbn
    replace hbox := be_box hbox hbn
    clear hbn
    have e1 : frmB a [] = true := by have h := (frmB_iff a l).1 hv; exact (frmB_iff a []).2 ⟨h.1, by simp, rfl⟩
    rw [e1]
    clear g0 g1
    have g0 : w4.cell? ⟨w1.heap.size, 0, none⟩ = some (.int .i64 a) := box_cell hbox 0
    have g1 : w4.cell? ⟨w1.heap.size, 1, none⟩ = some (.slice B l.length d) := box_cell hbox 1
    have hlit := new_box w4 (.cells #[.int .i64 256] 3)
    have hb1 := allocB hb (.cells #[.int .i64 256] 3)
    have hr1 : Rd (w4.alloc (.cells #[.int .i64 256] 3)) (some ⟨w4.heap.size, 0, none⟩) (ints [256]) := rd_new w4 #[.int .i64 256] 3
    go_wp2_with fail
    replace hb := hb1
    clear hb1 hlit ho hbox g0 g1
    refine (implFV a _ _ _ [256] _ rfl (by simp) hr1).mono ?_
    rintro e w5 ⟨rfl, hbn⟩
    replace hb := seqB hb hbn
    clear hbn
    have e2 : frmB a [256] = false := by cases h : frmB a [256] with | false => rfl | true => exact absurd ((frmB_iff a [256]).1 h).2.2 (by decide)
    rw [e2]
    clear hr1
    go_wp2_with fail
    refine (aliveC _).mono ?_
    rintro e w6 ⟨rfl, hbn⟩
    replace hb := seqB hb hbn
    clear hbn
    go_wp2_with fail
    go_ret
    exact ⟨ret_bool (by simp), hb⟩
end Go.Proofs.YtddiloillgbneaaDoor.lFV
