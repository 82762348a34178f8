/- The walk of FnExactReadFrames: it returns true, and writes nothing that was there. -/
import Derived.Test.YtddiloillgbneaaFrLm
namespace Go.Proofs.Ytddiloillgbneaa.exRFs
open Go.RowKit Go.Proofs.Ytddiloillgbneaa

theorem rdFs_small {xs : List Int} {n : Nat} (hn : xs.length = n) {rs : List FR} (h : vals rs = (rdFs xs).1) : (∀ r ∈ rs, r.l.length ≤ 12) ∧ totF rs ≤ n ∧ rs.length ≤ n := by
  obtain ⟨h1, h2⟩ := rdFs_all xs
  rw [← h] at h1 h2
  have h3 : ∀ r ∈ rs, frmB r.a r.l = true := fun r hr => h1 r.val (List.mem_map.2 ⟨r, hr, rfl⟩)
  have h4 : totF rs ≤ (catB (vals rs)).length ∧ rs.length ≤ (catB (vals rs)).length := by
    clear h h1 h2
    induction rs with
    | nil => simp [totF]
    | cons r rs ih =>
      have := ih (fun x hx => h3 x (List.mem_cons_of_mem _ hx))
      have h5 := (frmB_facts (h3 r (by simp))).2.2.2.2
      simp only [totF, vals, List.map_cons, catB, List.flatMap_cons, List.length_append, FR.val, h5, frmOut_len, List.length_cons] at this ⊢
      omega
  exact ⟨fun r hr => (frmB_facts (h3 r hr)).2.2.1, by omega, by omega⟩
theorem turned_ownF {A A' : Option Addr} {n base : Nat} {w w' : World} {rs : List FR} (h : Turned A n w w') (ho : OwnF w base A' rs) (hg : ∀ a, 0 < n → A = some a → a.block < base) : OwnF w' base A' rs :=
  ⟨h.own ho.1 hg, fun r hr => h.own (ho.2.1 r hr) hg, ho.2.2⟩

set_option maxRecDepth 100000 in
set_option maxHeartbeats 2000000 in
theorem walk (w : World) (A : Option Addr) (n c : Nat) (xs : List Int) (hn : xs.length = n) (hm : n ≤ maxLen) (hA : Rd w A (ints xs)) (_hw : ∀ x ∈ xs, (Lit.int .i64 x).wf = true) :
    Calls Try.prog 3 #[.slice A n c] w fun e w' => e = .returned (.bool true) ∧ Below w.heap.size w w' := by
  unfold maxLen at hm
  have HA := Lib.hid hA; clear hA
  have HN := Lib.hid hn; clear hn
  by_cases hs : n ≤ 1048576
  case neg =>
    go_enter Try.func3, Try.ntmps3
    go_wp2_with fail
    go_ret
    exact ⟨rfl, Below.refl _ _⟩
  have hb : Below w.heap.size w w := Below.refl _ _
  go_enter Try.func3, Try.ntmps3
  go_wp2_with fail
  refine (toIntS_any A n c xs _ HN.out hs (HA.out.below hb)).mono ?_
  rintro e w1 ⟨rfl, ho1, hbn⟩
  replace hb := seqB hb hbn
  clear hbn
  go_wp2_with fail
  refine (specRFs _ n n xs _ HN.out hs (Nat.le_refl _) ho1.rd).mono ?_
  rintro e w2 ⟨BW, dW, rsW, rfl, hoW, hvW, hbn⟩
  replace hb := seqB hb hbn
  replace ho1 := ho1.below hbn
  clear hbn
  clear ho1
  obtain ⟨hlW, htW, hKW⟩ := rdFs_small HN.out hvW
  have hvF := hvW
  generalize hS : (rdFs xs).2 = S at *
  have HS := Lib.hid hS; clear hS
  have HVW := Lib.hid hvF; clear hvF hvW
  generalize hK : rsW.length = K at *
  have HKW := Lib.hid hK; clear hK
  have HW := Lib.hid hoW.own.rd
  clear hoW
  have hp : Below w2.heap.size w2 w2 := Below.refl _ _
  have hneS : ((S : Int) != (S : Int)) = false := by simp
  have hgw0 := hb.size; have hgp0 := hp.size
  go_wp2_with fail
  refine (toIntS_any A n c xs _ HN.out hs (HA.out.below hb)).mono ?_
  rintro e w3 ⟨rfl, hox, hbn⟩
  replace hb := seqB hb hbn
  replace hp := hp.trans (hbn.mono hp.size)
  clear hbn
  have hltx := hox.lt
  have hbs0 := hb.size; have hps0 := hp.size
  go_wp2_with fail
  refine (implRFs _ n n xs _ HN.out hs (Nat.le_refl _) hox.rd).mono ?_
  rintro e w4 ⟨BG, dG, rsG, rfl, hrG, hvG, hbn⟩
  replace hb := seqB hb hbn
  replace hp := hp.trans (hbn.mono hp.size)
  replace hox := hox.below hbn
  clear hbn
  have hoG := hrG.own
  obtain ⟨hlG, htG, hKG⟩ := rdFs_small HN.out hvG
  have HKG : Hid (rsG.length = K) := by rw [Hid, ← HKW.out, ← vals_length, ← vals_length, hvG, HVW.out]
  have HVG : Hid (vals rsG = vals rsW) := by rw [Hid, hvG, HVW.out]
  rw [HKG.out, HS.out]
  clear hrG hvG hKG
  have HLG := Lib.hid hlG; clear hlG
  generalize hT : totF rsG = TT at *
  have HT := Lib.hid hT; clear hT
  go_wp2_with fail
  refine (eqFrS _ _ rsG rsW K _ _ _ HKG.out HKW.out HVG.out (by omega) HLG.out hoG.rd (HW.out.below hp)).mono ?_
  rintro e w5 ⟨rfl, hbn⟩
  replace hb := seqB hb hbn
  replace hp := hp.trans (hbn.mono hp.size)
  replace hox := hox.below hbn
  replace hoG := hoG.below hbn
  clear hbn
  go_wp2_with fail
  refine (toIntS_any A n c xs _ HN.out hs (HA.out.below hb)).mono ?_
  rintro e w6 ⟨rfl, hoy, hbn⟩
  replace hb := seqB hb hbn
  replace hp := hp.trans (hbn.mono hp.size)
  replace hox := hox.below hbn
  replace hoG := hoG.below hbn
  clear hbn
  go_wp2_with fail
  refine (eqIntS_same _ _ n n n xs _ HN.out hs hox.rd hoy.rd).mono ?_
  rintro e w7 ⟨rfl, qw7, rfl⟩
  have hbn := drewB w6 qw7
  generalize w6.drewN qw7 = w7 at *
  replace hb := seqB hb hbn
  replace hp := hp.trans (hbn.mono hp.size)
  replace hox := hox.below hbn
  replace hoG := hoG.below hbn
  replace hoy := hoy.below hbn
  clear hbn
  clear hoy
  go_wp2_with fail
  refine (markIntS_own _ _ n n _ _ _ hs (by omega) (by omega) hox).mono ?_
  rintro e wM ⟨rfl, _, hT⟩
  replace hb := hb.trans (hT.below (hox.ge hgw0))
  replace hp := hp.trans (hT.below (hox.ge hgp0))
  replace hoG := turned_ownF hT hoG hltx
  clear hT hox
  have hk1 : ¬ ((1 : Int) + (n : Int) < 0) := by omega
  go_wp2_with fail
  refine (eqFrS _ _ rsG rsW K _ _ _ HKG.out HKW.out HVG.out (by omega) HLG.out hoG.rd (HW.out.below hp)).mono ?_
  rintro e w8 ⟨rfl, hbn⟩
  replace hb := seqB hb hbn
  replace hp := hp.trans (hbn.mono hp.size)
  replace hoG := hoG.below hbn
  clear hbn
  go_wp2_with fail
  refine (markFrS _ _ rsG K _ _ _ HKG.out (by omega) HLG.out (by omega) (by omega) (by rw [HT.out]; omega) hoG).mono ?_
  rintro e wG ⟨rfl, hoM, hbg⟩
  rw [HT.out]
  replace hb := hb.trans (hbg.mono hbs0)
  replace hp := hp.trans (hbg.mono hps0)
  clear hbg hoG
  have hk2 : ¬ ((1 : Int) + (TT : Int) < 0) := by omega
  have hk3 : ((1 : Int) + (TT : Int) != (1 : Int) + (TT : Int)) = false := by simp
  go_wp2_with fail
  refine (heldFrS _ rsG K _ _ _ HKG.out (by omega) HLG.out (by omega) (by omega) (by rw [HT.out]; omega) hoM.rd).mono ?_
  rintro e w' ⟨rfl, rfl⟩
  rw [HT.out]
  go_wp2_with fail
  refine (toIntS_any A n c xs _ HN.out hs (HA.out.below hb)).mono ?_
  rintro e w9 ⟨rfl, hoz, hbn⟩
  replace hb := seqB hb hbn
  replace hp := hp.trans (hbn.mono hp.size)
  replace hoM := hoM.below hbn
  clear hbn
  go_wp2_with fail
  refine (implRFs _ n n xs _ HN.out hs (Nat.le_refl _) hoz.rd).mono ?_
  rintro e w10 ⟨BH, dH, rsH, rfl, hrH, hvH, hbn⟩
  replace hb := seqB hb hbn
  replace hp := hp.trans (hbn.mono hp.size)
  replace hoM := hoM.below hbn
  replace hoz := hoz.below hbn
  clear hbn
  have hoH := hrH.own
  obtain ⟨hlH, htH, hKH⟩ := rdFs_small HN.out hvH
  have HKH : Hid (rsH.length = K) := by rw [Hid, ← HKW.out, ← vals_length, ← vals_length, hvH, HVW.out]
  have HVH : Hid (vals rsH = vals rsW) := by rw [Hid, hvH, HVW.out]
  rw [HKH.out, HS.out]
  clear hrH hvH hKH htH
  have HLH := Lib.hid hlH; clear hlH
  go_wp2_with fail
  refine (eqFrS _ _ rsH rsW K _ _ _ HKH.out HKW.out HVH.out (by omega) HLH.out hoH.rd (HW.out.below hp)).mono ?_
  rintro e w11 ⟨rfl, hbn⟩
  replace hb := seqB hb hbn
  replace hp := hp.trans (hbn.mono hp.size)
  replace hoM := hoM.below hbn
  replace hoz := hoz.below hbn
  replace hoH := hoH.below hbn
  clear hbn
  go_wp2_with fail
  refine (heldFrS _ rsG K _ _ _ HKG.out (by omega) HLG.out (by omega) (by omega) (by rw [HT.out]; omega) hoM.rd).mono ?_
  rintro e w' ⟨rfl, rfl⟩
  rw [HT.out]
  go_wp2_with fail
  go_ret
  exact ⟨rfl, hb⟩
end Go.Proofs.Ytddiloillgbneaa.exRFs
