/- The walk of FnExactPeakPlan: it returns true, and writes nothing that was there. -/
import Derived.Test.YtjlbhpogmjjbiaaExPO
import Derived.Test.YtjlbhpogmjjbiaaBatN
namespace Go.Proofs.Ytjlbhpogmjjbiaa.exPP
open Go.RowKit Go.Proofs.Ytjlbhpogmjjbiaa

set_option maxHeartbeats 1000000 in
theorem walk (w : World) (s r l : Int) (A0 : Option Addr) (n0 c0 : Nat) (x0 : List Int) (hn0 : x0.length = n0) (hm0 : n0 ≤ maxLen) (hA0 : Rd w A0 (ints x0)) (_hw0 : ∀ x ∈ x0, (Lit.int .i64 x).wf = true) (a1 : Int) (_w1 : (Lit.int .i64 a1).wf = true) :
    Calls Try.prog 4 #[.agg #[.int .i64 s, .int .i64 r, .int .i64 l], .slice A0 n0 c0, .int .i64 a1] w fun e w' => e = .returned (.bool true) ∧ Below w.heap.size w w' := by
  unfold maxLen at hm0
  have HA0 := Lib.hid hA0; clear hA0
  have HN0 := Lib.hid hn0; clear hn0
  have hb : Below w.heap.size w (w.alloc (.cells #[.int .i64 s, .int .i64 r, .int .i64 l] 23)) := allocB (Below.refl _ _) _
  have hbox : Hid ((w.alloc (.cells #[.int .i64 s, .int .i64 r, .int .i64 l] 23)).heap[w.heap.size]? = some (.cells #[.int .i64 s, .int .i64 r, .int .i64 l] 23 (0, 0))) := heap_alloc_new w _
  have hz_hbox : w.heap.size < (w.alloc (.cells #[.int .i64 s, .int .i64 r, .int .i64 l] 23)).heap.size := by simp
  by_cases hs0 : n0 ≤ 1048576
  case neg =>
    go_enter Try.func4, Try.ntmps4
    go_wp2_with fail
    go_ret
    exact ⟨rfl, hb⟩
  obtain ⟨_, hpk⟩ := i64_wf _w1
  go_enter Try.func4, Try.ntmps4
  go_wp2_with fail
  refine (toBat _ _ _ _).mono ?_
  rintro e w1 ⟨rfl, hbn⟩
  replace hb := seqB hb hbn
  replace hbox := Lib.hid ((hbn.block _ hz_hbox).trans hbox.out)
  replace hz_hbox := Nat.lt_of_lt_of_le hz_hbox hbn.size
  clear hbn
  go_wp2_with fail
  refine (toIntS_any A0 n0 c0 x0 _ HN0.out hs0 (HA0.out.below hb)).mono ?_
  rintro e w2 ⟨rfl, ho1, hbn⟩
  replace hb := seqB hb hbn
  replace hbox := Lib.hid ((hbn.block _ hz_hbox).trans hbox.out)
  replace hz_hbox := Nat.lt_of_lt_of_le hz_hbox hbn.size
  clear hbn
  go_wp2_with fail
  refine (specPP _ n0 n0 s r l a1 x0 _ HN0.out hs0 hpk ho1.rd).mono ?_
  rintro e w3 ⟨BW, dW, rfl, hoW, hbn⟩
  replace hb := seqB hb hbn
  replace hbox := Lib.hid ((hbn.block _ hz_hbox).trans hbox.out)
  replace hz_hbox := Nat.lt_of_lt_of_le hz_hbox hbn.size
  replace ho1 := ho1.below hbn
  clear hbn
  clear ho1
  have hVl := plan_le s r l a1 x0
  generalize hV : (planV s r l a1 x0).getD [] = V at *
  have HV := Lib.hid hV; clear hV
  generalize hO : (planV s r l a1 x0).isSome = ok at *
  have HO := Lib.hid hO; clear hO
  have hok : (ok != ok) = false := by simp
  have hp : Below w3.heap.size w3 w3 := Below.refl _ _
  have HW := Lib.hid hoW.rd
  clear hoW
  have hgw0 := hb.size; have hgp0 := hp.size; have hgb0 := hz_hbox
  go_wp2_with fail
  refine (toIntS_any A0 n0 c0 x0 _ HN0.out hs0 (HA0.out.below hb)).mono ?_
  rintro e w4 ⟨rfl, hox0, hbn⟩
  replace hb := seqB hb hbn
  replace hbox := Lib.hid ((hbn.block _ hz_hbox).trans hbox.out)
  replace hz_hbox := Nat.lt_of_lt_of_le hz_hbox hbn.size
  replace hp := hp.trans (hbn.mono hp.size)
  clear hbn
  obtain ⟨g0, g1, g2⟩ := cells3 hbox.out
  go_wp2_with fail
  refine (toBat _ _ _ _).mono ?_
  rintro e w5 ⟨rfl, hbn⟩
  replace hb := seqB hb hbn
  replace hbox := Lib.hid ((hbn.block _ hz_hbox).trans hbox.out)
  replace hz_hbox := Nat.lt_of_lt_of_le hz_hbox hbn.size
  replace hp := hp.trans (hbn.mono hp.size)
  replace hox0 := hox0.below hbn
  clear hbn
  clear g0 g1 g2
  have hlt0 := hox0.lt
  have hgwG := hb.size; have hgpG := hp.size; have hgbG := hz_hbox
  go_wp2_with fail
  refine (implPP _ n0 n0 s r l a1 x0 _ HN0.out hs0 hpk hox0.rd).mono ?_
  rintro e w6 ⟨BG, dG, rfl, hoG, hbn⟩
  replace hb := seqB hb hbn
  replace hbox := Lib.hid ((hbn.block _ hz_hbox).trans hbox.out)
  replace hz_hbox := Nat.lt_of_lt_of_le hz_hbox hbn.size
  replace hp := hp.trans (hbn.mono hp.size)
  replace hox0 := hox0.below hbn
  clear hbn
  rw [HV.out] at hoG ⊢
  rw [HO.out]
  go_wp2_with fail
  refine (eqIntS_same _ _ V.length _ _ V _ rfl hVl hoG.rd (HW.out.below hp)).mono ?_
  rintro e w7 ⟨rfl, qw7, rfl⟩
  have hbn := drewB w6 qw7
  generalize w6.drewN qw7 = w7 at *
  replace hb := seqB hb hbn
  replace hbox := Lib.hid ((hbn.block _ hz_hbox).trans hbox.out)
  replace hz_hbox := Nat.lt_of_lt_of_le hz_hbox hbn.size
  replace hp := hp.trans (hbn.mono hp.size)
  replace hox0 := hox0.below hbn
  replace hoG := hoG.below hbn
  clear hbn
  go_wp2_with fail
  refine (toIntS_any A0 n0 c0 x0 _ HN0.out hs0 (HA0.out.below hb)).mono ?_
  rintro e w8 ⟨rfl, hoy0, hbn⟩
  replace hb := seqB hb hbn
  replace hbox := Lib.hid ((hbn.block _ hz_hbox).trans hbox.out)
  replace hz_hbox := Nat.lt_of_lt_of_le hz_hbox hbn.size
  replace hp := hp.trans (hbn.mono hp.size)
  replace hox0 := hox0.below hbn
  replace hoG := hoG.below hbn
  clear hbn
  go_wp2_with fail
  refine (eqIntS_same _ _ n0 n0 n0 x0 _ HN0.out hs0 hox0.rd hoy0.rd).mono ?_
  rintro e w9 ⟨rfl, qw9, rfl⟩
  have hbn := drewB w8 qw9
  generalize w8.drewN qw9 = w9 at *
  replace hb := seqB hb hbn
  replace hbox := Lib.hid ((hbn.block _ hz_hbox).trans hbox.out)
  replace hz_hbox := Nat.lt_of_lt_of_le hz_hbox hbn.size
  replace hp := hp.trans (hbn.mono hp.size)
  replace hox0 := hox0.below hbn
  replace hoG := hoG.below hbn
  replace hoy0 := hoy0.below hbn
  clear hbn
  clear hoy0
  go_wp2_with fail
  refine (markIntS_own _ _ n0 n0 _ _ _ hs0 (by omega) (by omega) hox0).mono ?_
  rintro e w10 ⟨rfl, _, hT⟩
  replace hb := hb.trans (hT.below (hox0.ge hgw0))
  replace hp := hp.trans (hT.below (hox0.ge hgp0))
  replace hoG := hT.own hoG hlt0
  replace hbox := Lib.hid ((hT.block _ (fun a h0 ha => by have := hox0.ge hgb0 a h0 ha; omega)).trans hbox.out)
  replace hz_hbox : w.heap.size < w10.heap.size := by rw [hT.size]; exact hz_hbox
  clear hT
  clear hox0
  go_wp2_with fail
  refine (eqIntS_same _ _ V.length _ _ V _ rfl hVl hoG.rd (HW.out.below hp)).mono ?_
  rintro e w11 ⟨rfl, qw11, rfl⟩
  have hbn := drewB w10 qw11
  generalize w10.drewN qw11 = w11 at *
  replace hb := seqB hb hbn
  replace hbox := Lib.hid ((hbn.block _ hz_hbox).trans hbox.out)
  replace hz_hbox := Nat.lt_of_lt_of_le hz_hbox hbn.size
  replace hp := hp.trans (hbn.mono hp.size)
  replace hoG := hoG.below hbn
  clear hbn
  go_wp2_with fail
  refine (markIntS_own _ _ V.length _ _ _ _ hVl (by omega) (by omega) hoG).mono ?_
  rintro e w12 ⟨rfl, hoM, hT⟩
  replace hb := hb.trans (hT.below (hoG.ge hgwG))
  replace hp := hp.trans (hT.below (hoG.ge hgpG))
  replace hbox := Lib.hid ((hT.block _ (fun a h0 ha => by have := hoG.ge hgbG a h0 ha; omega)).trans hbox.out)
  replace hz_hbox : w.heap.size < w12.heap.size := by rw [hT.size]; exact hz_hbox
  clear hT
  clear hoG
  go_wp2_with fail
  refine (heldIntS_yes _ V.length _ _ _ hVl (by omega) (by omega) hoM.rd).mono ?_
  rintro e w' ⟨rfl, rfl⟩
  obtain ⟨g0, g1, g2⟩ := cells3 hbox.out
  go_wp2_with fail
  refine (toBat _ _ _ _).mono ?_
  rintro e w13 ⟨rfl, hbn⟩
  replace hb := seqB hb hbn
  replace hbox := Lib.hid ((hbn.block _ hz_hbox).trans hbox.out)
  replace hz_hbox := Nat.lt_of_lt_of_le hz_hbox hbn.size
  replace hp := hp.trans (hbn.mono hp.size)
  replace hoM := hoM.below hbn
  clear hbn
  clear g0 g1 g2
  clear hbox
  clear hz_hbox
  go_wp2_with fail
  refine (toIntS_any A0 n0 c0 x0 _ HN0.out hs0 (HA0.out.below hb)).mono ?_
  rintro e w14 ⟨rfl, hoz0, hbn⟩
  replace hb := seqB hb hbn
  replace hp := hp.trans (hbn.mono hp.size)
  replace hoM := hoM.below hbn
  clear hbn
  go_wp2_with fail
  refine (implPP _ n0 n0 s r l a1 x0 _ HN0.out hs0 hpk hoz0.rd).mono ?_
  rintro e w15 ⟨BH, dH, rfl, hoH, hbn⟩
  replace hb := seqB hb hbn
  replace hp := hp.trans (hbn.mono hp.size)
  replace hoM := hoM.below hbn
  replace hoz0 := hoz0.below hbn
  clear hbn
  rw [HV.out] at hoH ⊢
  rw [HO.out]
  go_wp2_with fail
  refine (eqIntS_same _ _ V.length _ _ V _ rfl hVl hoH.rd (HW.out.below hp)).mono ?_
  rintro e w16 ⟨rfl, qw16, rfl⟩
  have hbn := drewB w15 qw16
  generalize w15.drewN qw16 = w16 at *
  replace hb := seqB hb hbn
  replace hp := hp.trans (hbn.mono hp.size)
  replace hoM := hoM.below hbn
  replace hoz0 := hoz0.below hbn
  replace hoH := hoH.below hbn
  clear hbn
  go_wp2_with fail
  refine (heldIntS_yes _ V.length _ _ _ hVl (by omega) (by omega) hoM.rd).mono ?_
  rintro e w' ⟨rfl, rfl⟩
  go_wp2_with fail
  go_ret
  exact ⟨rfl, hb⟩
end Go.Proofs.Ytjlbhpogmjjbiaa.exPP
