/- The walk of FnExactLogMerge: it returns true, and writes nothing that was there. -/
import Derived.Test.YtdlphgknplomkaaMrgS
namespace Go.Proofs.Ytdlphgknplomkaa.exLM
open Go.RowKit Go.Proofs.Ytdlphgknplomkaa

def RetMv (V : List Entry) (ok : Bool) (w : World) (en : Ending) (w' : World) : Prop :=
  ∃ B d, en = .returned (.tuple #[.slice B V.length d, .bool ok]) ∧ Own w' w.heap.size 30 4 B V.length (flatEntry V) ∧ Below w.heap.size w w'
theorem RetLM.v {a b V : List Entry} {ok : Bool} {w w' : World} {en : Ending} (h : mergeV a b = (V, ok)) (hr : RetLM a b w en w') : RetMv V ok w en w' := by
  obtain ⟨B, d, h1, h2, h3⟩ := hr
  rw [h] at h1 h2
  exact ⟨B, d, h1, row_own h2, h3⟩
theorem specM (V : List Entry) (ok : Bool) (g g2 n m : Nat) (a b : List Entry) (w : World) (h : mergeV a b = (V, ok)) (hn : a.length = n) (hm : b.length = m) (hn' : n ≤ 1048576) (hm' : m ≤ 1048576) (hA : Rd w (some ⟨g, 0, none⟩) (flatEntry a)) (hB : Rd w (some ⟨g2, 0, none⟩) (flatEntry b)) :
    Calls Try.prog 13 #[.slice (some ⟨g, 0, none⟩) n n, .slice (some ⟨g2, 0, none⟩) m m] w (RetMv V ok w) := (specLM _ n n a _ m m b w hn hn' ⟨Nat.le_refl _, .inr ⟨g, rfl⟩⟩ hA hm hm' hB).mono fun _ _ hr => RetLM.v h hr
theorem implM (V : List Entry) (ok : Bool) (g g2 n m : Nat) (a b : List Entry) (w : World) (h : mergeV a b = (V, ok)) (hn : a.length = n) (hm : b.length = m) (hn' : n ≤ 1048576) (hm' : m ≤ 1048576) (hA : Rd w (some ⟨g, 0, none⟩) (flatEntry a)) (hB : Rd w (some ⟨g2, 0, none⟩) (flatEntry b)) :
    Calls Try.prog 14 #[.slice (some ⟨g, 0, none⟩) n n, .slice (some ⟨g2, 0, none⟩) m m] w (RetMv V ok w) := (implLM _ n n a _ m m b w hn hn' ⟨Nat.le_refl _, .inr ⟨g, rfl⟩⟩ hA hm hm' ⟨Nat.le_refl _, .inr ⟨g2, rfl⟩⟩ hB).mono fun _ _ hr => RetLM.v h hr
theorem mergeV_len {a b V : List Entry} {ok : Bool} (h : mergeV a b = (V, ok)) : V.length ≤ 16 := by
  by_cases hv : logB a = true ∧ logB b = true
  · rcases merge_uni hv.1 hv.2 with ⟨r, e, hu⟩ | ⟨e, _⟩
    · rw [e] at h; cases h; exact log_len hu.1
    · rw [e] at h; cases h; simp
  · rw [merge_no hv] at h; cases h; simp
set_option maxHeartbeats 2000000 in
theorem walk (w : World) (A0 : Option Addr) (n0 c0 : Nat) (x0 : List Entry) (hn0 : x0.length = n0) (hm0 : n0 ≤ maxLen) (hA0 : Rd w A0 (flatEntry x0)) (A1 : Option Addr) (n1 c1 : Nat) (x1 : List Entry) (hn1 : x1.length = n1) (hm1 : n1 ≤ maxLen) (hA1 : Rd w A1 (flatEntry x1)) :
    Calls Try.prog 4 #[.slice A0 n0 c0, .slice A1 n1 c1] w fun e w' => e = .returned (.bool true) ∧ Below w.heap.size w w' := by
  unfold maxLen at hm0 hm1
  have HA0 := Lib.hid hA0; clear hA0
  have HA1 := Lib.hid hA1; clear hA1
  have HN0 := Lib.hid hn0; clear hn0
  have HN1 := Lib.hid hn1; clear hn1
  by_cases hs0 : n0 ≤ 1048576
  case neg =>
    go_enter Try.func4, Try.ntmps4
    go_wp2_with fail
    refine (szEntryS_no A0 n0 c0 _ _ (by omega) (by omega) (by omega)).mono ?_
    rintro e w' ⟨rfl, rfl⟩
    go_wp2_with fail
    go_ret
    exact ⟨rfl, Below.refl _ _⟩
  by_cases hs1 : n0 + n1 ≤ 1048576
  case neg =>
    go_enter Try.func4, Try.ntmps4
    go_wp2_with fail
    refine (szEntryS_ok A0 n0 c0 _ _ (by omega) (by omega)).mono ?_
    rintro e w' ⟨rfl, rfl⟩
    go_wp2_with fail
    refine (szEntryS_no A1 n1 c1 _ _ (by omega) (by omega) (by omega)).mono ?_
    rintro e w' ⟨rfl, rfl⟩
    go_wp2_with fail
    go_ret
    exact ⟨rfl, Below.refl _ _⟩
  have ht0 : n0 ≤ 1048576 := by omega
  have ht1 : n1 ≤ 1048576 := by omega
  have hb : Below w.heap.size w w := Below.refl _ _
  obtain ⟨⟨V, ok⟩, hP⟩ : ∃ P, mergeV x0 x1 = P := ⟨_, rfl⟩
  have hVl : V.length ≤ 1048576 := Nat.le_trans (mergeV_len hP) (by omega)
  have HP := Lib.hid hP; clear hP
  have hok : (ok != ok) = false := by simp
  go_enter Try.func4, Try.ntmps4
  go_wp2_with fail
  refine (szEntryS_ok A0 n0 c0 _ _ (by omega) (by omega)).mono ?_
  rintro e w' ⟨rfl, rfl⟩
  go_wp2_with fail
  refine (szEntryS_ok A1 n1 c1 _ _ (by omega) (by omega)).mono ?_
  rintro e w' ⟨rfl, rfl⟩
  go_wp2_with fail
  refine (toEntryS_any A0 n0 c0 x0 _ HN0.out ht0 (HA0.out.below hb)).mono ?_
  rintro e w1 ⟨rfl, hos0, hbn⟩
  replace hb := seqB hb hbn
  clear hbn
  go_wp2_with fail
  refine (toEntryS_any A1 n1 c1 x1 _ HN1.out ht1 (HA1.out.below hb)).mono ?_
  rintro e w2 ⟨rfl, hos1, hbn⟩
  replace hb := seqB hb hbn
  replace hos0 := hos0.below hbn
  clear hbn
  go_wp2_with fail
  refine (specM V ok _ _ n0 n1 x0 x1 _ HP.out HN0.out HN1.out ht0 ht1 hos0.rd hos1.rd).mono ?_
  rintro e w3 ⟨BW, dW, rfl, hoW, hbn⟩
  replace hb := seqB hb hbn
  replace hos0 := hos0.below hbn
  replace hos1 := hos1.below hbn
  clear hbn
  clear hos0 hos1
  have hp : Below w3.heap.size w3 w3 := Below.refl _ _
  have HW := Lib.hid hoW.rd; clear hoW
  have hgw0 := hb.size; have hgp0 := hp.size
  go_wp2_with fail
  refine (toEntryS_any A0 n0 c0 x0 _ HN0.out ht0 (HA0.out.below hb)).mono ?_
  rintro e w4 ⟨rfl, hox0, hbn⟩
  replace hb := seqB hb hbn
  replace hp := hp.trans (hbn.mono hp.size)
  clear hbn
  have hgw1 := hb.size; have hgp1 := hp.size
  have hsep := hox0.lt
  go_wp2_with fail
  refine (toEntryS_any A1 n1 c1 x1 _ HN1.out ht1 (HA1.out.below hb)).mono ?_
  rintro e w5 ⟨rfl, hox1, hbn⟩
  replace hb := seqB hb hbn
  replace hp := hp.trans (hbn.mono hp.size)
  replace hox0 := hox0.below hbn
  clear hbn
  have hlt0 := hox0.lt
  have hlt1 := hox1.lt
  have hgwG := hb.size; have hgpG := hp.size
  go_wp2_with fail
  refine (implM V ok _ _ n0 n1 x0 x1 _ HP.out HN0.out HN1.out ht0 ht1 hox0.rd hox1.rd).mono ?_
  rintro e w6 ⟨BG, dG, rfl, hoG, hbn⟩
  replace hb := seqB hb hbn
  replace hp := hp.trans (hbn.mono hp.size)
  replace hox0 := hox0.below hbn
  replace hox1 := hox1.below hbn
  clear hbn
  go_wp2_with fail
  refine (eqEntryS_same _ _ V.length _ _ V _ rfl hVl hoG.rd (HW.out.below hp)).mono ?_
  rintro e w7 ⟨rfl, hbn⟩
  replace hb := seqB hb hbn
  replace hp := hp.trans (hbn.mono hp.size)
  replace hox0 := hox0.below hbn
  replace hox1 := hox1.below hbn
  replace hoG := hoG.below hbn
  clear hbn
  go_wp2_with fail
  refine (toEntryS_any A0 n0 c0 x0 _ HN0.out ht0 (HA0.out.below hb)).mono ?_
  rintro e w8 ⟨rfl, hoy0, hbn⟩
  replace hb := seqB hb hbn
  replace hp := hp.trans (hbn.mono hp.size)
  replace hox0 := hox0.below hbn
  replace hox1 := hox1.below hbn
  replace hoG := hoG.below hbn
  clear hbn
  go_wp2_with fail
  refine (eqEntryS_same _ _ n0 n0 n0 x0 _ HN0.out ht0 hox0.rd hoy0.rd).mono ?_
  rintro e w9 ⟨rfl, hbn⟩
  replace hb := seqB hb hbn
  replace hp := hp.trans (hbn.mono hp.size)
  replace hox0 := hox0.below hbn
  replace hox1 := hox1.below hbn
  replace hoG := hoG.below hbn
  replace hoy0 := hoy0.below hbn
  clear hbn
  clear hoy0
  go_wp2_with fail
  refine (toEntryS_any A1 n1 c1 x1 _ HN1.out ht1 (HA1.out.below hb)).mono ?_
  rintro e w10 ⟨rfl, hoy1, hbn⟩
  replace hb := seqB hb hbn
  replace hp := hp.trans (hbn.mono hp.size)
  replace hox0 := hox0.below hbn
  replace hox1 := hox1.below hbn
  replace hoG := hoG.below hbn
  clear hbn
  go_wp2_with fail
  refine (eqEntryS_same _ _ n1 n1 n1 x1 _ HN1.out ht1 hox1.rd hoy1.rd).mono ?_
  rintro e w11 ⟨rfl, hbn⟩
  replace hb := seqB hb hbn
  replace hp := hp.trans (hbn.mono hp.size)
  replace hox0 := hox0.below hbn
  replace hox1 := hox1.below hbn
  replace hoG := hoG.below hbn
  replace hoy1 := hoy1.below hbn
  clear hbn
  clear hoy1
  go_wp2_with fail
  refine (markEntryS_own _ _ n0 n0 _ _ _ ht0 (by omega) (by omega) hox0).mono ?_
  rintro e wm0 ⟨rfl, _, hT⟩
  replace hb := hb.trans (hT.below (hox0.ge hgw0))
  replace hp := hp.trans (hT.below (hox0.ge hgp0))
  replace hoG := hT.own hoG hlt0
  replace hox1 := hT.own hox1 hsep
  clear hT hox0
  go_wp2_with fail
  refine (markEntryS_own _ _ n1 n1 _ _ _ ht1 (by omega) (by omega) hox1).mono ?_
  rintro e wm1 ⟨rfl, _, hT⟩
  replace hb := hb.trans (hT.below (hox1.ge hgw1))
  replace hp := hp.trans (hT.below (hox1.ge hgp1))
  replace hoG := hT.own hoG hlt1
  clear hT hox1
  go_wp2_with fail
  refine (eqEntryS_same _ _ V.length _ _ V _ rfl hVl hoG.rd (HW.out.below hp)).mono ?_
  rintro e w12 ⟨rfl, hbn⟩
  replace hb := seqB hb hbn
  replace hp := hp.trans (hbn.mono hp.size)
  replace hoG := hoG.below hbn
  clear hbn
  go_wp2_with fail
  refine (markEntryS_own _ _ V.length _ _ _ _ hVl (by omega) (by omega) hoG).mono ?_
  rintro e wm2 ⟨rfl, hoM, hT⟩
  replace hb := hb.trans (hT.below (hoG.ge hgwG))
  replace hp := hp.trans (hT.below (hoG.ge hgpG))
  clear hT hoG
  go_wp2_with fail
  refine (heldEntryS_yes _ V.length _ _ _ hVl (by omega) (by omega) hoM.rd).mono ?_
  rintro e w' ⟨rfl, rfl⟩
  go_wp2_with fail
  refine (toEntryS_any A0 n0 c0 x0 _ HN0.out ht0 (HA0.out.below hb)).mono ?_
  rintro e w13 ⟨rfl, hoz0, hbn⟩
  replace hb := seqB hb hbn
  replace hp := hp.trans (hbn.mono hp.size)
  replace hoM := hoM.below hbn
  clear hbn
  go_wp2_with fail
  refine (toEntryS_any A1 n1 c1 x1 _ HN1.out ht1 (HA1.out.below hb)).mono ?_
  rintro e w14 ⟨rfl, hoz1, hbn⟩
  replace hb := seqB hb hbn
  replace hp := hp.trans (hbn.mono hp.size)
  replace hoM := hoM.below hbn
  replace hoz0 := hoz0.below hbn
  clear hbn
  go_wp2_with fail
  refine (implM V ok _ _ n0 n1 x0 x1 _ HP.out HN0.out HN1.out ht0 ht1 hoz0.rd hoz1.rd).mono ?_
  rintro e w15 ⟨BH, dH, rfl, hoH, hbn⟩
  replace hb := seqB hb hbn
  replace hp := hp.trans (hbn.mono hp.size)
  replace hoM := hoM.below hbn
  replace hoz0 := hoz0.below hbn
  replace hoz1 := hoz1.below hbn
  clear hbn
  clear hoz0 hoz1
  go_wp2_with fail
  refine (eqEntryS_same _ _ V.length _ _ V _ rfl hVl hoH.rd (HW.out.below hp)).mono ?_
  rintro e w16 ⟨rfl, hbn⟩
  replace hb := seqB hb hbn
  replace hp := hp.trans (hbn.mono hp.size)
  replace hoM := hoM.below hbn
  replace hoH := hoH.below hbn
  clear hbn
  go_wp2_with fail
  refine (heldEntryS_yes _ V.length _ _ _ hVl (by omega) (by omega) hoM.rd).mono ?_
  rintro e w' ⟨rfl, rfl⟩
  go_wp2_with fail
  go_ret
  exact ⟨rfl, hb⟩
end Go.Proofs.Ytdlphgknplomkaa.exLM
