/- The walk of FnExactFrameValid: it returns true, and writes nothing that was there. -/
import Derived.Test.YtbicpnbobfhmbaaFrmD
import Derived.Deep.RegionHeld3
namespace Go.Proofs.Ytbicpnbobfhmbaa.exFV
open Go.RowKit Go.Proofs.Ytbicpnbobfhmbaa

set_option maxHeartbeats 2000000 in
theorem walk (w : World) (a : Int) (A : Option Addr) (n c : Nat) (b : List Int) (hn : b.length = n) (hm : n ≤ maxLen) (hA : Rd w A (ints b)) :
    Calls Try.prog 3 #[.agg #[.int .i64 a, .slice A n c]] w fun e w' => e = .returned (.bool true) ∧ Below w.heap.size w w' := by
  have HA := Lib.hid hA; clear hA
  have HN := Lib.hid hn; clear hn
  have hb : Below w.heap.size w (w.alloc (.cells #[.int .i64 a, .slice A n c] 24)) := allocB (Below.refl _ _) _
  have hbox : Hid ((w.alloc (.cells #[.int .i64 a, .slice A n c] 24)).heap[w.heap.size]? = some (.cells #[.int .i64 a, .slice A n c] 24 (0, 0))) := heap_alloc_new w _
  have hz_hbox : w.heap.size < (w.alloc (.cells #[.int .i64 a, .slice A n c] 24)).heap.size := by simp
  by_cases hs : n ≤ 1048576
  case neg =>
    go_enter Try.func3, Try.ntmps3
    go_wp2_with fail
    refine (szFr_no a A n c _ hs hm).mono ?_
    rintro e w1 ⟨rfl, hbn⟩
    go_wp2_with fail
    go_ret
    exact ⟨rfl, seqB hb hbn⟩
  clear hm
  go_enter Try.func3, Try.ntmps3
  go_wp2_with fail
  refine (szFr_ok a A n c _ hs).mono ?_
  rintro e w1 ⟨rfl, hbn⟩
  replace hb := seqB hb hbn
  replace hbox := Lib.hid ((hbn.block _ hz_hbox).trans hbox.out)
  replace hz_hbox := Nat.lt_of_lt_of_le hz_hbox hbn.size
  clear hbn
  have hl : ¬ ((1048576 : Int) - (n : Int) < 0) := by omega
  obtain ⟨g0, g1⟩ := cells2 hbox.out
  go_wp2_with fail
  refine (toFr a A n c b _ HN.out hs (HA.out.below hb)).mono ?_
  rintro e w2 ⟨Bho1, rfl, ho1, hbn⟩
  replace hb := seqB hb hbn
  replace hbox := Lib.hid ((hbn.block _ hz_hbox).trans hbox.out)
  replace hz_hbox := Nat.lt_of_lt_of_le hz_hbox hbn.size
  clear hbn
  clear g0 g1
  go_wp2_with fail
  refine (specFV a _ n n b _ HN.out hs ho1.rd).mono ?_
  rintro e w3 ⟨rfl, hbn⟩
  replace hb := seqB hb hbn
  replace hbox := Lib.hid ((hbn.block _ hz_hbox).trans hbox.out)
  replace hz_hbox := Nat.lt_of_lt_of_le hz_hbox hbn.size
  replace ho1 := ho1.below hbn
  clear hbn
  clear ho1
  obtain ⟨g0, g1⟩ := cells2 hbox.out
  go_wp2_with fail
  refine (toFr a A n c b _ HN.out hs (HA.out.below hb)).mono ?_
  rintro e w4 ⟨Bhox, rfl, hox, hbn⟩
  replace hb := seqB hb hbn
  replace hbox := Lib.hid ((hbn.block _ hz_hbox).trans hbox.out)
  replace hz_hbox := Nat.lt_of_lt_of_le hz_hbox hbn.size
  clear hbn
  clear g0 g1
  go_wp2_with fail
  have hbo : Below w4.heap.size w4 (w4.alloc (.cells #[.int .i64 a, .slice Bhox n n] 27)) := allocB (Below.refl _ _) _
  have hxb : Hid ((w4.alloc (.cells #[.int .i64 a, .slice Bhox n n] 27)).heap[w4.heap.size]? = some (.cells #[.int .i64 a, .slice Bhox n n] 27 (0, 0))) := heap_alloc_new w4 _
  have hz_hxb : w4.heap.size < (w4.alloc (.cells #[.int .i64 a, .slice Bhox n n] 27)).heap.size := by simp
  replace hb := seqB hb hbo
  replace hbox := Lib.hid ((hbo.block _ hz_hbox).trans hbox.out)
  replace hz_hbox := Nat.lt_of_lt_of_le hz_hbox hbo.size
  replace hox := hox.below hbo
  clear hbo
  refine (implFV a _ n n b _ HN.out hs hox.rd).mono ?_
  rintro e w5 ⟨rfl, hbn⟩
  replace hb := seqB hb hbn
  replace hbox := Lib.hid ((hbn.block _ hz_hbox).trans hbox.out)
  replace hz_hbox := Nat.lt_of_lt_of_le hz_hbox hbn.size
  replace hox := hox.below hbn
  replace hxb := Lib.hid ((hbn.block _ hz_hxb).trans hxb.out)
  replace hz_hxb := Nat.lt_of_lt_of_le hz_hxb hbn.size
  clear hbn
  generalize frmB a b = V at *
  have hne : (V != V) = false := by simp
  obtain ⟨g0, g1⟩ := cells2 hbox.out
  obtain ⟨x0, x1⟩ := cells2 hxb.out
  go_wp2_with fail
  replace hb := drew1B hb
  replace hox : Own w5.drew _ _ _ _ _ _ := hox
  replace hbox : Hid (w5.drew.heap[_]? = _) := hbox
  replace hz_hbox : _ < w5.drew.heap.size := hz_hbox
  replace hxb : Hid (w5.drew.heap[_]? = _) := hxb
  replace hz_hxb : _ < w5.drew.heap.size := hz_hxb
  go_region_held3 (fun W => W.cell? ⟨w.heap.size, 0, none⟩ = some (.int .i64 a) ∧ W.cell? ⟨w.heap.size, 1, none⟩ = some (.slice A n c) ∧ W.cell? ⟨w4.heap.size, 0, none⟩ = some (.int .i64 a) ∧ W.cell? ⟨w4.heap.size, 1, none⟩ = some (.slice Bhox n n)) (first | go_keep | (go_split_ands; refine ⟨?_, ?_, ?_, ?_⟩ <;> go_keep) | (go_split_ands; refine ⟨?_, ?_, ?_, ?_⟩ <;> exact keepC (by assumption) hbq) | (go_split_ands; refine ⟨?_, ?_, ?_, ?_⟩ <;> exact keepC (by assumption) hbr)) (first | (go_at_call 9; refine (toFr a A n c b _ HN.out hs (HA.out.below hb)).mono ?_; rintro e wq ⟨By, rfl, hoy, hbq⟩) | (go_at_call 11; refine (eqFr a _ _ n n n b _ HN.out hs (hox.below hbq).rd hoy.rd).mono ?_; rintro e wr ⟨rfl, hbr⟩))
  clear g0 g1 x0 x1 hoy
  have hbn := seqB hbq hbr
  clear hbq hbr
  replace hb := seqB hb hbn
  replace hbox := Lib.hid ((hbn.block _ hz_hbox).trans hbox.out)
  replace hz_hbox := Nat.lt_of_lt_of_le hz_hbox hbn.size
  replace hox := hox.below hbn
  replace hxb := Lib.hid ((hbn.block _ hz_hxb).trans hxb.out)
  replace hz_hxb := Nat.lt_of_lt_of_le hz_hxb hbn.size
  clear hbn
  go_wp2_with fail
  go_ret
  exact ⟨rfl, hb⟩
end Go.Proofs.Ytbicpnbobfhmbaa.exFV
