/- The walk of FnExactFrameBytes: it returns true, and writes nothing that was there. -/
import Derived.Test.YtbicpnbobfhmbaaFrmD
import Derived.Test.YtbicpnbobfhmbaaFrmE
import Derived.Deep.RegionHeld3
namespace Go.Proofs.Ytbicpnbobfhmbaa.exFB
open Go.RowKit Go.Proofs.Ytbicpnbobfhmbaa

set_option maxHeartbeats 2000000 in
theorem walk (w : World) (a : Int) (A : Option Addr) (n c : Nat) (b : List Int) (hn : b.length = n) (hm : n ≤ maxLen) (hA : Rd w A (ints b)) :
    Calls Try.prog 4 #[.agg #[.int .i64 a, .slice A n c]] w fun e w' => e = .returned (.bool true) ∧ Below w.heap.size w w' := by
  have HA := Lib.hid hA; clear hA
  have HN := Lib.hid hn; clear hn
  have hb : Below w.heap.size w (w.alloc (.cells #[.int .i64 a, .slice A n c] 24)) := allocB (Below.refl _ _) _
  have hbox : Hid ((w.alloc (.cells #[.int .i64 a, .slice A n c] 24)).heap[w.heap.size]? = some (.cells #[.int .i64 a, .slice A n c] 24 (0, 0))) := heap_alloc_new w _
  have hz_hbox : w.heap.size < (w.alloc (.cells #[.int .i64 a, .slice A n c] 24)).heap.size := by simp
  by_cases hs : n ≤ 1048576
  case neg =>
    go_enter Try.func4, Try.ntmps4
    go_wp2_with fail
    refine (szFr_no a A n c _ hs hm).mono ?_
    rintro e w1 ⟨rfl, hbn⟩
    go_wp2_with fail
    go_ret
    exact ⟨rfl, seqB hb hbn⟩
  clear hm
  go_enter Try.func4, Try.ntmps4
  go_wp2_with fail
  refine (szFr_ok a A n c _ hs).mono ?_
  rintro e w1 ⟨rfl, hbn⟩
  replace hb := seqB hb hbn
  replace hbox := Lib.hid ((hbn.block _ hz_hbox).trans hbox.out)
  replace hz_hbox := Nat.lt_of_lt_of_le hz_hbox hbn.size
  clear hbn
  have hl : ¬ ((1048576 : Int) - (n : Int) < 0) := by omega
  obtain ⟨g0, g1⟩ := cells2 hbox.out
  go_wp2_with fail
  refine (toFr a A n c b _ HN.out hs (HA.out.below hb)).mono ?_
  rintro e w2 ⟨Bho1, rfl, ho1, hbn⟩
  replace hb := seqB hb hbn
  replace hbox := Lib.hid ((hbn.block _ hz_hbox).trans hbox.out)
  replace hz_hbox := Nat.lt_of_lt_of_le hz_hbox hbn.size
  clear hbn
  clear g0 g1
  go_wp2_with fail
  refine (specFB a _ n n b _ HN.out hs ho1.rd (fun e => by cases e)).mono ?_
  rintro e w3 ⟨BW, dW, rfl, hoW, hbn⟩
  replace hb := seqB hb hbn
  replace hbox := Lib.hid ((hbn.block _ hz_hbox).trans hbox.out)
  replace hz_hbox := Nat.lt_of_lt_of_le hz_hbox hbn.size
  replace ho1 := ho1.below hbn
  clear hbn
  clear ho1
  have hVl : (frmBytes a b).length ≤ 1048576 := by have := frmBytes_len a b; omega
  generalize hV : frmBytes a b = V at *
  have HV := Lib.hid hV; clear hV
  have hp : Below w3.heap.size w3 w3 := Below.refl _ _
  have HW := Lib.hid hoW.rd
  clear hoW
  have hgw0 := hb.size; have hgp0 := hp.size; have hgb0 := hz_hbox
  obtain ⟨g0, g1⟩ := cells2 hbox.out
  go_wp2_with fail
  refine (toFr a A n c b _ HN.out hs (HA.out.below hb)).mono ?_
  rintro e w4 ⟨Bhox, rfl, hox, hbn⟩
  replace hb := seqB hb hbn
  replace hbox := Lib.hid ((hbn.block _ hz_hbox).trans hbox.out)
  replace hz_hbox := Nat.lt_of_lt_of_le hz_hbox hbn.size
  replace hp := hp.trans (hbn.mono hp.size)
  clear hbn
  clear g0 g1
  go_wp2_with fail
  have hbo : Below w4.heap.size w4 (w4.alloc (.cells #[.int .i64 a, .slice (some ⟨Bhox, 0, none⟩) n n] 27)) := allocB (Below.refl _ _) _
  have hxb : Hid ((w4.alloc (.cells #[.int .i64 a, .slice (some ⟨Bhox, 0, none⟩) n n] 27)).heap[w4.heap.size]? = some (.cells #[.int .i64 a, .slice (some ⟨Bhox, 0, none⟩) n n] 27 (0, 0))) := heap_alloc_new w4 _
  have hz_hxb : w4.heap.size < (w4.alloc (.cells #[.int .i64 a, .slice (some ⟨Bhox, 0, none⟩) n n] 27)).heap.size := by simp
  replace hb := seqB hb hbo
  replace hbox := Lib.hid ((hbo.block _ hz_hbox).trans hbox.out)
  replace hz_hbox := Nat.lt_of_lt_of_le hz_hbox hbo.size
  replace hp := hp.trans (hbo.mono hp.size)
  replace hox := hox.below hbo
  clear hbo
  have hlt0 := hox.lt
  have hgwG := hb.size; have hgpG := hp.size; have hgbG := hz_hbox
  refine (implFB a _ n n b _ HN.out hs hox.rd).mono ?_
  rintro e w5 ⟨BG, dG, rfl, hoG, hbn⟩
  replace hb := seqB hb hbn
  replace hbox := Lib.hid ((hbn.block _ hz_hbox).trans hbox.out)
  replace hz_hbox := Nat.lt_of_lt_of_le hz_hbox hbn.size
  replace hp := hp.trans (hbn.mono hp.size)
  replace hox := hox.below hbn
  replace hxb := Lib.hid ((hbn.block _ hz_hxb).trans hxb.out)
  replace hz_hxb := Nat.lt_of_lt_of_le hz_hxb hbn.size
  clear hbn
  rw [HV.out] at hoG ⊢
  go_wp2_with fail
  refine (eqIntS_same _ _ V.length _ _ V _ rfl hVl hoG.rd (HW.out.below hp)).mono ?_
  rintro e w6 ⟨rfl, qw6, rfl⟩
  have hbn := drewB w5 qw6
  generalize w5.drewN qw6 = w6 at *
  replace hb := seqB hb hbn
  replace hbox := Lib.hid ((hbn.block _ hz_hbox).trans hbox.out)
  replace hz_hbox := Nat.lt_of_lt_of_le hz_hbox hbn.size
  replace hp := hp.trans (hbn.mono hp.size)
  replace hox := hox.below hbn
  replace hxb := Lib.hid ((hbn.block _ hz_hxb).trans hxb.out)
  replace hz_hxb := Nat.lt_of_lt_of_le hz_hxb hbn.size
  replace hoG := hoG.below hbn
  clear hbn
  obtain ⟨g0, g1⟩ := cells2 hbox.out
  obtain ⟨x0, x1⟩ := cells2 hxb.out
  go_wp2_with fail
  replace hb := drew1B hb
  replace hbox : Hid (w6.drew.heap[_]? = _) := hbox
  replace hz_hbox : _ < w6.drew.heap.size := hz_hbox
  replace hp := drew1B hp
  replace hox : Own w6.drew _ _ _ _ _ _ := hox
  replace hxb : Hid (w6.drew.heap[_]? = _) := hxb
  replace hz_hxb : _ < w6.drew.heap.size := hz_hxb
  replace hoG : Own w6.drew _ _ _ _ _ _ := hoG
  go_region_held3 (fun W => W.cell? ⟨w.heap.size, 0, none⟩ = some (.int .i64 a) ∧ W.cell? ⟨w.heap.size, 1, none⟩ = some (.slice A n c) ∧ W.cell? ⟨w4.heap.size, 0, none⟩ = some (.int .i64 a) ∧ W.cell? ⟨w4.heap.size, 1, none⟩ = some (.slice (some ⟨Bhox, 0, none⟩) n n)) (first | go_keep | (go_split_ands; refine ⟨?_, ?_, ?_, ?_⟩ <;> go_keep) | (go_split_ands; refine ⟨?_, ?_, ?_, ?_⟩ <;> exact keepC (by assumption) hbq) | (go_split_ands; refine ⟨?_, ?_, ?_, ?_⟩ <;> exact keepC (by assumption) hbr)) (first | (go_at_call 9; refine (toFr a A n c b _ HN.out hs (HA.out.below hb)).mono ?_; rintro e wq ⟨By, rfl, hoy, hbq⟩) | (go_at_call 11; refine (eqFr a _ _ n n n b _ HN.out hs (hox.below hbq).rd hoy.rd).mono ?_; rintro e wr ⟨rfl, hbr⟩))
  clear g0 g1 x0 x1 hoy
  have hbn := seqB hbq hbr
  clear hbq hbr
  replace hb := seqB hb hbn
  replace hbox := Lib.hid ((hbn.block _ hz_hbox).trans hbox.out)
  replace hz_hbox := Nat.lt_of_lt_of_le hz_hbox hbn.size
  replace hp := hp.trans (hbn.mono hp.size)
  replace hox := hox.below hbn
  replace hxb := Lib.hid ((hbn.block _ hz_hxb).trans hxb.out)
  replace hz_hxb := Nat.lt_of_lt_of_le hz_hxb hbn.size
  replace hoG := hoG.below hbn
  clear hbn
  obtain ⟨x0, x1⟩ := cells2 hxb.out
  go_wp2_with fail
  clear x0 x1
  clear hxb
  clear hz_hxb
  refine (markFr _ a _ n n _ _ _ hs (by omega) (by omega) hox).mono ?_
  rintro e wM ⟨rfl, _, wm, hbn, hT⟩
  replace hb := seqB hb hbn
  replace hbox := Lib.hid ((hbn.block _ hz_hbox).trans hbox.out)
  replace hz_hbox := Nat.lt_of_lt_of_le hz_hbox hbn.size
  replace hp := hp.trans (hbn.mono hp.size)
  replace hox := hox.below hbn
  replace hoG := hoG.below hbn
  clear hbn
  replace hb := hb.trans (hT.below (hox.ge hgw0))
  replace hp := hp.trans (hT.below (hox.ge hgp0))
  replace hoG := hT.own hoG hlt0
  replace hbox := Lib.hid ((hT.block _ (fun a h0 ha => by have := hox.ge hgb0 a h0 ha; omega)).trans hbox.out)
  replace hz_hbox : w.heap.size < wM.heap.size := by rw [hT.size]; exact hz_hbox
  clear hT
  clear hox
  have hk1 : ¬ ((1 : Int) + (n : Int) < 0) := by omega
  go_wp2_with fail
  refine (eqIntS_same _ _ V.length _ _ V _ rfl hVl hoG.rd (HW.out.below hp)).mono ?_
  rintro e w7 ⟨rfl, qw7, rfl⟩
  have hbn := drewB wM qw7
  generalize wM.drewN qw7 = w7 at *
  replace hb := seqB hb hbn
  replace hbox := Lib.hid ((hbn.block _ hz_hbox).trans hbox.out)
  replace hz_hbox := Nat.lt_of_lt_of_le hz_hbox hbn.size
  replace hp := hp.trans (hbn.mono hp.size)
  replace hoG := hoG.below hbn
  clear hbn
  go_wp2_with fail
  refine (markIntS_own _ _ V.length _ _ _ _ hVl (by omega) (by omega) hoG).mono ?_
  rintro e wG ⟨rfl, hoM, hT⟩
  replace hb := hb.trans (hT.below (hoG.ge hgwG))
  replace hp := hp.trans (hT.below (hoG.ge hgpG))
  replace hbox := Lib.hid ((hT.block _ (fun a h0 ha => by have := hoG.ge hgbG a h0 ha; omega)).trans hbox.out)
  replace hz_hbox : w.heap.size < wG.heap.size := by rw [hT.size]; exact hz_hbox
  clear hT
  clear hoG
  have hk2 : ¬ ((1 : Int) + (V.length : Int) < 0) := by omega
  have hk3 : ((1 : Int) + (V.length : Int) != (1 : Int) + (V.length : Int)) = false := by simp
  go_wp2_with fail
  refine (heldIntS_yes _ V.length _ _ _ hVl (by omega) (by omega) hoM.rd).mono ?_
  rintro e w' ⟨rfl, rfl⟩
  obtain ⟨g0, g1⟩ := cells2 hbox.out
  go_wp2_with fail
  refine (toFr a A n c b _ HN.out hs (HA.out.below hb)).mono ?_
  rintro e w8 ⟨Bhoz, rfl, hoz, hbn⟩
  replace hb := seqB hb hbn
  replace hbox := Lib.hid ((hbn.block _ hz_hbox).trans hbox.out)
  replace hz_hbox := Nat.lt_of_lt_of_le hz_hbox hbn.size
  replace hp := hp.trans (hbn.mono hp.size)
  replace hoM := hoM.below hbn
  clear hbn
  clear g0 g1
  go_wp2_with fail
  refine (implFB a _ n n b _ HN.out hs hoz.rd).mono ?_
  rintro e w9 ⟨BH, dH, rfl, hoH, hbn⟩
  replace hb := seqB hb hbn
  replace hbox := Lib.hid ((hbn.block _ hz_hbox).trans hbox.out)
  replace hz_hbox := Nat.lt_of_lt_of_le hz_hbox hbn.size
  replace hp := hp.trans (hbn.mono hp.size)
  replace hoM := hoM.below hbn
  replace hoz := hoz.below hbn
  clear hbn
  rw [HV.out] at hoH ⊢
  go_wp2_with fail
  refine (eqIntS_same _ _ V.length _ _ V _ rfl hVl hoH.rd (HW.out.below hp)).mono ?_
  rintro e w10 ⟨rfl, qw10, rfl⟩
  have hbn := drewB w9 qw10
  generalize w9.drewN qw10 = w10 at *
  replace hb := seqB hb hbn
  replace hbox := Lib.hid ((hbn.block _ hz_hbox).trans hbox.out)
  replace hz_hbox := Nat.lt_of_lt_of_le hz_hbox hbn.size
  replace hp := hp.trans (hbn.mono hp.size)
  replace hoM := hoM.below hbn
  replace hoz := hoz.below hbn
  replace hoH := hoH.below hbn
  clear hbn
  go_wp2_with fail
  refine (heldIntS_yes _ V.length _ _ _ hVl (by omega) (by omega) hoM.rd).mono ?_
  rintro e w' ⟨rfl, rfl⟩
  go_wp2_with fail
  go_ret
  exact ⟨rfl, hb⟩
end Go.Proofs.Ytbicpnbobfhmbaa.exFB
