/- The walk of FnExactPollAll: it returns true, and writes nothing that was there. -/
import Derived.Test.YthekihggedgofaaMxPoll
import Derived.Test.YthekihggedgofaaPolE
import Derived.Deep.RegionHeld3
namespace Go.Proofs.Ythekihggedgofaa.exPA
open Go.RowKit Go.Proofs.Ythekihggedgofaa

set_option maxHeartbeats 2000000 in
theorem walk (w : World) (z0 : Int) (A1 : Option Addr) (n1 c1 : Nat) (x1 : List Int) (hn1 : x1.length = n1) (hm1 : n1 ≤ maxLen) (hA1 : Rd w A1 (ints x1)) (z2 : Int) (A3 : Option Addr) (n3 c3 : Nat) (x3 : List Int) (hn3 : x3.length = n3) (hm3 : n3 ≤ maxLen) (hA3 : Rd w A3 (ints x3)) (z4 : Int) (z5 : Int) (z6 : Int) (z7 : Int) :
    Calls Try.prog 4 #[.agg #[.int .i64 z0, .slice A1 n1 c1, .int .i64 z2, .slice A3 n3 c3, .int .i64 z4, .int .i64 z5, .int .i64 z6, .int .i64 z7]] w fun e w' => e = .returned (.bool true) ∧ Below w.heap.size w w' := by
  have HA1 := Lib.hid hA1; clear hA1
  have HN1 := Lib.hid hn1; clear hn1
  have HA3 := Lib.hid hA3; clear hA3
  have HN3 := Lib.hid hn3; clear hn3
  have hb : Below w.heap.size w (w.alloc (.cells #[.int .i64 z0, .slice A1 n1 c1, .int .i64 z2, .slice A3 n3 c3, .int .i64 z4, .int .i64 z5, .int .i64 z6, .int .i64 z7] 24)) := allocB (Below.refl _ _) _
  have hbox : Hid ((w.alloc (.cells #[.int .i64 z0, .slice A1 n1 c1, .int .i64 z2, .slice A3 n3 c3, .int .i64 z4, .int .i64 z5, .int .i64 z6, .int .i64 z7] 24)).heap[w.heap.size]? = some (.cells #[.int .i64 z0, .slice A1 n1 c1, .int .i64 z2, .slice A3 n3 c3, .int .i64 z4, .int .i64 z5, .int .i64 z6, .int .i64 z7] 24 (0, 0))) := heap_alloc_new w _
  have hz_hbox : w.heap.size < (w.alloc (.cells #[.int .i64 z0, .slice A1 n1 c1, .int .i64 z2, .slice A3 n3 c3, .int .i64 z4, .int .i64 z5, .int .i64 z6, .int .i64 z7] 24)).heap.size := by simp
  by_cases hs : n1 + n3 ≤ 1048576
  case neg =>
    go_enter Try.func4, Try.ntmps4
    go_wp2_with fail
    refine (szPoll_no z0 A1 n1 c1 x1 z2 A3 n3 c3 x3 z4 z5 z6 z7 _ hs hm1 hm3).mono ?_
    rintro e w1 ⟨rfl, hbn⟩
    go_wp2_with fail
    go_ret
    exact ⟨rfl, seqB hb hbn⟩
  have hs1 : n1 ≤ 1048576 := by omega
  have hs3 : n3 ≤ 1048576 := by omega
  clear hm1 hm3
  go_enter Try.func4, Try.ntmps4
  go_wp2_with fail
  refine (szPoll_ok z0 A1 n1 c1 x1 z2 A3 n3 c3 x3 z4 z5 z6 z7 _ hs).mono ?_
  rintro e w1 ⟨⟨zl, rfl, hzl⟩, hbn⟩
  replace hb := seqB hb hbn
  replace hbox := Lib.hid ((hbn.block _ hz_hbox).trans hbox.out)
  replace hz_hbox := Nat.lt_of_lt_of_le hz_hbox hbn.size
  clear hbn
  have hl : ¬ (zl < 0) := by omega
  have g0 := box_cell hbox 0
  have g1 := box_cell hbox 1
  have g2 := box_cell hbox 2
  have g3 := box_cell hbox 3
  have g4 := box_cell hbox 4
  have g5 := box_cell hbox 5
  have g6 := box_cell hbox 6
  have g7 := box_cell hbox 7
  simp at g0 g1 g2 g3 g4 g5 g6 g7
  go_wp2_with fail
  refine (toPoll_any z0 A1 n1 c1 x1 z2 A3 n3 c3 x3 z4 z5 z6 z7 _ HN1.out hs1 (HA1.out.below hb) HN3.out hs3 (HA3.out.below hb)).mono ?_
  rintro e w2 ⟨Bho1, Bho3, bsho, rfl, ho1, ho3, hleho, hltho, hbn⟩
  replace hb := seqB hb hbn
  replace hbox := Lib.hid ((hbn.block _ hz_hbox).trans hbox.out)
  replace hz_hbox := Nat.lt_of_lt_of_le hz_hbox hbn.size
  clear hbn
  clear g0 g1 g2 g3 g4 g5 g6 g7
  go_wp2_with fail
  refine (specPA z0 Bho1 n1 n1 x1 z2 Bho3 n3 n3 x3 z4 z5 z6 z7 _ HN1.out hs1 ho1.rd HN3.out hs3 ho3.rd (own_none ho1) (own_none ho3)).mono ?_
  rintro e w3 ⟨BW, dW, rfl, hrW, hbn⟩
  replace hb := seqB hb hbn
  replace hbox := Lib.hid ((hbn.block _ hz_hbox).trans hbox.out)
  replace hz_hbox := Nat.lt_of_lt_of_le hz_hbox hbn.size
  replace ho1 := ho1.below hbn
  replace ho3 := ho3.below hbn
  clear hbn
  clear ho1 ho3
  have hPl : (pollL z0 z2 z4 z5 z6 z7 x1 x3).length ≤ 12 := pollL_len
  have HW := Lib.hid (rd_of_row hrW)
  clear hrW hleho hltho
  generalize hPL : pollL z0 z2 z4 z5 z6 z7 x1 x3 = PL at *
  have HPL := Lib.hid hPL; clear hPL
  generalize hN : PL.length = N at *
  have HN := Lib.hid hN; clear hN
  have hp : Below w3.heap.size w3 w3 := Below.refl _ _
  have hsb := hb.size; have hsp := hp.size; have hsx := hz_hbox
  have g0 := box_cell hbox 0
  have g1 := box_cell hbox 1
  have g2 := box_cell hbox 2
  have g3 := box_cell hbox 3
  have g4 := box_cell hbox 4
  have g5 := box_cell hbox 5
  have g6 := box_cell hbox 6
  have g7 := box_cell hbox 7
  simp at g0 g1 g2 g3 g4 g5 g6 g7
  go_wp2_with fail
  refine (toPoll_any z0 A1 n1 c1 x1 z2 A3 n3 c3 x3 z4 z5 z6 z7 _ HN1.out hs1 (HA1.out.below hb) HN3.out hs3 (HA3.out.below hb)).mono ?_
  rintro e w4 ⟨Bhox1, Bhox3, bshox, rfl, hox1, hox3, hlehox, hlthox, hbn⟩
  replace hb := seqB hb hbn
  replace hbox := Lib.hid ((hbn.block _ hz_hbox).trans hbox.out)
  replace hz_hbox := Nat.lt_of_lt_of_le hz_hbox hbn.size
  replace hp := hp.trans (hbn.mono hp.size)
  clear hbn
  clear g0 g1 g2 g3 g4 g5 g6 g7
  have HWG := Lib.hid (And.intro hsb (And.intro hsp hlehox)); have HWX := Lib.hid hsx
  go_wp2_with fail
  have hbo : Below w4.heap.size w4 (w4.alloc (.cells #[.int .i64 z0, .slice Bhox1 n1 n1, .int .i64 z2, .slice Bhox3 n3 n3, .int .i64 z4, .int .i64 z5, .int .i64 z6, .int .i64 z7] 27)) := allocB (Below.refl _ _) _
  have hxb : Hid ((w4.alloc (.cells #[.int .i64 z0, .slice Bhox1 n1 n1, .int .i64 z2, .slice Bhox3 n3 n3, .int .i64 z4, .int .i64 z5, .int .i64 z6, .int .i64 z7] 27)).heap[w4.heap.size]? = some (.cells #[.int .i64 z0, .slice Bhox1 n1 n1, .int .i64 z2, .slice Bhox3 n3 n3, .int .i64 z4, .int .i64 z5, .int .i64 z6, .int .i64 z7] 27 (0, 0))) := heap_alloc_new w4 _
  have hz_hxb : w4.heap.size < (w4.alloc (.cells #[.int .i64 z0, .slice Bhox1 n1 n1, .int .i64 z2, .slice Bhox3 n3 n3, .int .i64 z4, .int .i64 z5, .int .i64 z6, .int .i64 z7] 27)).heap.size := by simp
  replace hb := seqB hb hbo
  replace hbox := Lib.hid ((hbo.block _ hz_hbox).trans hbox.out)
  replace hz_hbox := Nat.lt_of_lt_of_le hz_hbox hbo.size
  replace hp := hp.trans (hbo.mono hp.size)
  replace hox1 := hox1.below hbo
  replace hox3 := hox3.below hbo
  clear hbo
  have hlt1 := hox1.lt; have hlt3 := hox3.lt
  have hgb := hb.size; have hgp := hp.size
  have HWY := Lib.hid hz_hbox
  refine (implPA z0 Bhox1 n1 n1 x1 z2 Bhox3 n3 n3 x3 z4 z5 z6 z7 _ HN1.out hs1 hox1.rd HN3.out hs3 hox3.rd (own_none hox1) (own_none hox3)).mono ?_
  rintro e w5 ⟨BG, dG, rfl, hrG, hbn⟩
  replace hb := seqB hb hbn
  replace hbox := Lib.hid ((hbn.block _ hz_hbox).trans hbox.out)
  replace hz_hbox := Nat.lt_of_lt_of_le hz_hbox hbn.size
  replace hp := hp.trans (hbn.mono hp.size)
  replace hox1 := hox1.below hbn
  replace hox3 := hox3.below hbn
  replace hxb := Lib.hid ((hbn.block _ hz_hxb).trans hxb.out)
  replace hz_hxb := Nat.lt_of_lt_of_le hz_hxb hbn.size
  clear hbn
  rw [HPL.out] at hrG ⊢
  rw [HN.out] at hrG ⊢
  have hoG := row_own hrG
  clear hrG
  go_wp2_with fail
  refine (eqIntS_same BG BW N dG dW PL _ HN.out (by omega) hoG.rd (HW.out.below hp)).mono ?_
  rintro e w6 ⟨rfl, qw6, rfl⟩
  have hbn := drewB w5 qw6
  generalize w5.drewN qw6 = w6 at *
  replace hb := seqB hb hbn
  replace hbox := Lib.hid ((hbn.block _ hz_hbox).trans hbox.out)
  replace hz_hbox := Nat.lt_of_lt_of_le hz_hbox hbn.size
  replace hp := hp.trans (hbn.mono hp.size)
  replace hox1 := hox1.below hbn
  replace hox3 := hox3.below hbn
  replace hxb := Lib.hid ((hbn.block _ hz_hxb).trans hxb.out)
  replace hz_hxb := Nat.lt_of_lt_of_le hz_hxb hbn.size
  replace hoG := hoG.below hbn
  clear hbn
  have g0 := box_cell hbox 0
  have g1 := box_cell hbox 1
  have g2 := box_cell hbox 2
  have g3 := box_cell hbox 3
  have g4 := box_cell hbox 4
  have g5 := box_cell hbox 5
  have g6 := box_cell hbox 6
  have g7 := box_cell hbox 7
  simp at g0 g1 g2 g3 g4 g5 g6 g7
  have x_0 := box_cell hxb 0
  have x_1 := box_cell hxb 1
  have x_2 := box_cell hxb 2
  have x_3 := box_cell hxb 3
  have x_4 := box_cell hxb 4
  have x_5 := box_cell hxb 5
  have x_6 := box_cell hxb 6
  have x_7 := box_cell hxb 7
  simp at x_0 x_1 x_2 x_3 x_4 x_5 x_6 x_7
  go_wp2_with fail
  replace hb := drew1B hb
  replace hbox : Hid (w6.drew.heap[_]? = _) := hbox
  replace hz_hbox : _ < w6.drew.heap.size := hz_hbox
  replace hp := drew1B hp
  replace hox1 : Own w6.drew _ _ _ _ _ _ := hox1
  replace hox3 : Own w6.drew _ _ _ _ _ _ := hox3
  replace hxb : Hid (w6.drew.heap[_]? = _) := hxb
  replace hz_hxb : _ < w6.drew.heap.size := hz_hxb
  replace hoG : Own w6.drew _ _ _ _ _ _ := hoG
  go_region_held3 (fun W => W.cell? ⟨w.heap.size, 0, none⟩ = some (.int .i64 z0) ∧ W.cell? ⟨w.heap.size, 1, none⟩ = some (.slice A1 n1 c1) ∧ W.cell? ⟨w.heap.size, 2, none⟩ = some (.int .i64 z2) ∧ W.cell? ⟨w.heap.size, 3, none⟩ = some (.slice A3 n3 c3) ∧ W.cell? ⟨w.heap.size, 4, none⟩ = some (.int .i64 z4) ∧ W.cell? ⟨w.heap.size, 5, none⟩ = some (.int .i64 z5) ∧ W.cell? ⟨w.heap.size, 6, none⟩ = some (.int .i64 z6) ∧ W.cell? ⟨w.heap.size, 7, none⟩ = some (.int .i64 z7) ∧ W.cell? ⟨w4.heap.size, 0, none⟩ = some (.int .i64 z0) ∧ W.cell? ⟨w4.heap.size, 1, none⟩ = some (.slice Bhox1 n1 n1) ∧ W.cell? ⟨w4.heap.size, 2, none⟩ = some (.int .i64 z2) ∧ W.cell? ⟨w4.heap.size, 3, none⟩ = some (.slice Bhox3 n3 n3) ∧ W.cell? ⟨w4.heap.size, 4, none⟩ = some (.int .i64 z4) ∧ W.cell? ⟨w4.heap.size, 5, none⟩ = some (.int .i64 z5) ∧ W.cell? ⟨w4.heap.size, 6, none⟩ = some (.int .i64 z6) ∧ W.cell? ⟨w4.heap.size, 7, none⟩ = some (.int .i64 z7)) (first | go_keep | (go_split_ands; refine ⟨?_, ?_, ?_, ?_, ?_, ?_, ?_, ?_, ?_, ?_, ?_, ?_, ?_, ?_, ?_, ?_⟩ <;> go_keep) | (go_split_ands; refine ⟨?_, ?_, ?_, ?_, ?_, ?_, ?_, ?_, ?_, ?_, ?_, ?_, ?_, ?_, ?_, ?_⟩ <;> exact keepC (by assumption) hbq) | (go_split_ands; refine ⟨?_, ?_, ?_, ?_, ?_, ?_, ?_, ?_, ?_, ?_, ?_, ?_, ?_, ?_, ?_, ?_⟩ <;> exact keepC (by assumption) hbr)) (first | (go_at_call 7; refine (toPoll_any z0 A1 n1 c1 x1 z2 A3 n3 c3 x3 z4 z5 z6 z7 _ HN1.out hs1 (HA1.out.below hb) HN3.out hs3 (HA3.out.below hb)).mono ?_; rintro e wq ⟨Bhoy1, Bhoy3, bshoy, rfl, hoy1, hoy3, hlehoy, hlthoy, hbq⟩) | (go_at_call 9; refine (eqPoll_same z0 _ _ n1 n1 n1 x1 z2 _ _ n3 n3 n3 x3 z4 z5 z6 z7 _ HN1.out hs1 (hox1.below hbq).rd HN3.out hs3 (hox3.below hbq).rd hoy1.rd hoy3.rd).mono ?_; rintro e wr ⟨rfl, hbr⟩))
  clear g0 g1 g2 g3 g4 g5 g6 g7 x_0 x_1 x_2 x_3 x_4 x_5 x_6 x_7
  have hbn := seqB hbq hbr
  clear hbr
  replace hb := seqB hb hbn
  replace hbox := Lib.hid ((hbn.block _ hz_hbox).trans hbox.out)
  replace hz_hbox := Nat.lt_of_lt_of_le hz_hbox hbn.size
  replace hp := hp.trans (hbn.mono hp.size)
  replace hox1 := hox1.below hbn
  replace hox3 := hox3.below hbn
  replace hxb := Lib.hid ((hbn.block _ hz_hxb).trans hxb.out)
  replace hz_hxb := Nat.lt_of_lt_of_le hz_hxb hbn.size
  replace hoG := hoG.below hbn
  clear hbn
  have x_0 := box_cell hxb 0
  have x_1 := box_cell hxb 1
  have x_2 := box_cell hxb 2
  have x_3 := box_cell hxb 3
  have x_4 := box_cell hxb 4
  have x_5 := box_cell hxb 5
  have x_6 := box_cell hxb 6
  have x_7 := box_cell hxb 7
  simp at x_0 x_1 x_2 x_3 x_4 x_5 x_6 x_7
  go_wp2_with fail
  clear x_0 x_1 x_2 x_3 x_4 x_5 x_6 x_7
  refine (markPoll_own _ _ z0 Bhox1 n1 n1 z2 Bhox3 n3 n3 z4 z5 z6 z7 1 _ _ _ hs1 hs3 (by omega) (by omega) hox1 hox3 (fun a b h0 h1 ha hb' => by have := hlthox a h0 ha; have := hox3.ge (Nat.le_refl _) b h1 hb'; omega)).mono ?_
  rintro e wM ⟨⟨kM, rfl, hkM⟩, wA, hbn, wB, hT1, hT3⟩
  replace hb := seqB hb hbn
  replace hbox := Lib.hid ((hbn.block _ hz_hbox).trans hbox.out)
  replace hz_hbox := Nat.lt_of_lt_of_le hz_hbox hbn.size
  replace hp := hp.trans (hbn.mono hp.size)
  replace hox1 := hox1.below hbn
  replace hox3 := hox3.below hbn
  replace hxb := Lib.hid ((hbn.block _ hz_hxb).trans hxb.out)
  replace hz_hxb := Nat.lt_of_lt_of_le hz_hxb hbn.size
  replace hoG := hoG.below hbn
  clear hbn
  have hq1 := hox1.ge (Nat.le_refl _)
  have hq3 := hox3.ge (Nat.le_refl _)
  replace hb := (hb.trans (hT1.below (fun a h0 ha => Nat.le_trans HWG.out.1 (hq1 a h0 ha)))).trans (hT3.below (fun a h0 ha => Nat.le_trans (Nat.le_trans HWG.out.1 HWG.out.2.2) (hq3 a h0 ha)))
  replace hp := (hp.trans (hT1.below (fun a h0 ha => Nat.le_trans HWG.out.2.1 (hq1 a h0 ha)))).trans (hT3.below (fun a h0 ha => Nat.le_trans (Nat.le_trans HWG.out.2.1 HWG.out.2.2) (hq3 a h0 ha)))
  replace hoG := hT3.own (hT1.own hoG hlt1) hlt3
  replace hbox := Lib.hid ((hT3.block _ (fun a h0 ha => by have := hq3 a h0 ha; have := HWX.out; have := HWG.out.2.2; omega)).trans ((hT1.block _ (fun a h0 ha => by have := hq1 a h0 ha; have := HWX.out; omega)).trans hbox.out))
  replace hz_hbox : w.heap.size < wM.heap.size := by rw [hT3.size, hT1.size]; exact hz_hbox
  clear hT1 hT3 hox1 hox3 hxb hz_hxb hq1 hq3
  go_wp2_with fail
  refine (eqIntS_same BG BW N dG dW PL _ HN.out (by omega) hoG.rd (HW.out.below hp)).mono ?_
  rintro e w7 ⟨rfl, qw7, rfl⟩
  have hbn := drewB wM qw7
  generalize wM.drewN qw7 = w7 at *
  replace hb := seqB hb hbn
  replace hbox := Lib.hid ((hbn.block _ hz_hbox).trans hbox.out)
  replace hz_hbox := Nat.lt_of_lt_of_le hz_hbox hbn.size
  replace hp := hp.trans (hbn.mono hp.size)
  replace hoG := hoG.below hbn
  clear hbn
  go_wp2_with fail
  refine (markIntS_own _ BG N dG 1 _ _ (by omega) (by omega) (by omega) hoG).mono ?_
  rintro e wG ⟨rfl, hoM, hT⟩
  replace hb := hb.trans (hT.below (hoG.ge hgb))
  replace hp := hp.trans (hT.below (hoG.ge hgp))
  replace hbox := Lib.hid ((hT.block _ (fun a h0 ha => by have := hoG.ge (Nat.le_refl _) a h0 ha; have := HWX.out; have := HWY.out; omega)).trans hbox.out)
  replace hz_hbox : w.heap.size < wG.heap.size := by rw [hT.size]; exact hz_hbox
  clear hT hoG
  have hk2 : ¬ ((1 : Int) + (N : Int) < 0) := by omega
  have hk3 : ((1 : Int) + (N : Int) != (1 : Int) + (N : Int)) = false := by simp
  go_wp2_with fail
  refine (heldIntS_yes BG N dG 1 _ (by omega) (by omega) (by omega) hoM.rd).mono ?_
  rintro e w' ⟨rfl, rfl⟩
  have g0 := box_cell hbox 0
  have g1 := box_cell hbox 1
  have g2 := box_cell hbox 2
  have g3 := box_cell hbox 3
  have g4 := box_cell hbox 4
  have g5 := box_cell hbox 5
  have g6 := box_cell hbox 6
  have g7 := box_cell hbox 7
  simp at g0 g1 g2 g3 g4 g5 g6 g7
  go_wp2_with fail
  refine (toPoll_any z0 A1 n1 c1 x1 z2 A3 n3 c3 x3 z4 z5 z6 z7 _ HN1.out hs1 (HA1.out.below hb) HN3.out hs3 (HA3.out.below hb)).mono ?_
  rintro e w8 ⟨Bhoz1, Bhoz3, bshoz, rfl, hoz1, hoz3, hlehoz, hlthoz, hbn⟩
  replace hb := seqB hb hbn
  replace hbox := Lib.hid ((hbn.block _ hz_hbox).trans hbox.out)
  replace hz_hbox := Nat.lt_of_lt_of_le hz_hbox hbn.size
  replace hp := hp.trans (hbn.mono hp.size)
  replace hoM := hoM.below hbn
  clear hbn
  clear g0 g1 g2 g3 g4 g5 g6 g7
  go_wp2_with fail
  refine (implPA z0 Bhoz1 n1 n1 x1 z2 Bhoz3 n3 n3 x3 z4 z5 z6 z7 _ HN1.out hs1 hoz1.rd HN3.out hs3 hoz3.rd (own_none hoz1) (own_none hoz3)).mono ?_
  rintro e w9 ⟨BH, dH, rfl, hrH, hbn⟩
  replace hb := seqB hb hbn
  replace hbox := Lib.hid ((hbn.block _ hz_hbox).trans hbox.out)
  replace hz_hbox := Nat.lt_of_lt_of_le hz_hbox hbn.size
  replace hp := hp.trans (hbn.mono hp.size)
  replace hoM := hoM.below hbn
  replace hoz1 := hoz1.below hbn
  replace hoz3 := hoz3.below hbn
  clear hbn
  rw [HPL.out] at hrH ⊢
  rw [HN.out] at hrH ⊢
  have hoH := row_own hrH
  clear hrH
  go_wp2_with fail
  refine (eqIntS_same BH BW N dH dW PL _ HN.out (by omega) hoH.rd (HW.out.below hp)).mono ?_
  rintro e w10 ⟨rfl, qw10, rfl⟩
  have hbn := drewB w9 qw10
  generalize w9.drewN qw10 = w10 at *
  replace hb := seqB hb hbn
  replace hbox := Lib.hid ((hbn.block _ hz_hbox).trans hbox.out)
  replace hz_hbox := Nat.lt_of_lt_of_le hz_hbox hbn.size
  replace hp := hp.trans (hbn.mono hp.size)
  replace hoM := hoM.below hbn
  replace hoz1 := hoz1.below hbn
  replace hoz3 := hoz3.below hbn
  replace hoH := hoH.below hbn
  clear hbn
  go_wp2_with fail
  refine (heldIntS_yes BG N dG 1 _ (by omega) (by omega) (by omega) hoM.rd).mono ?_
  rintro e w' ⟨rfl, rfl⟩
  go_wp2_with fail
  go_ret
  exact ⟨rfl, hb⟩
end Go.Proofs.Ythekihggedgofaa.exPA
