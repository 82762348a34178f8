/- The walk of FnReadFrames: it returns true, and writes nothing that was there. -/
import Derived.Test.YtddiloillgbneaaDoorDrY
import Derived.Test.YtddiloillgbneaaDoorSmFs
namespace Go.Proofs.YtddiloillgbneaaDoor.lRFs
open Go.RowKit Go.Proofs.YtddiloillgbneaaDoor

theorem vals_get {rs : List FR} {F : List (Int × List Int)} (h : vals rs = F) (k : Nat) (hk : k < rs.length) : F[k]? = some (rs.getD k FR.zero).val := by
  subst h
  simp [vals, hk]
theorem catB_take {F : List (Int × List Int)} (k : Nat) {v : Int × List Int} (h : F[k]? = some v) : catB (F.take (k + 1)) = catB (F.take k) ++ frmBytes v.1 v.2 := by
  rw [List.take_add_one, h]; simp [catB]
theorem catB_take_len (F : List (Int × List Int)) (k : Nat) : (catB (F.take k)).length ≤ (catB F).length := by
  have h : catB F = catB (F.take k) ++ catB (F.drop k) := by
    simp only [catB]; rw [← List.flatMap_append, List.take_append_drop]
  rw [h, List.length_append]; omega
theorem len_vals {rs ss : List FR} (h : vals rs = vals ss) (hl : ∀ r ∈ ss, r.l.length ≤ 12) : ∀ r ∈ rs, r.l.length ≤ 12 := by
  intro r hr
  have hm : r.val ∈ vals rs := List.mem_map.2 ⟨r, hr, rfl⟩
  rw [h] at hm
  obtain ⟨s, hs, e⟩ := List.mem_map.1 hm
  have := hl s hs
  have e2 := congrArg (fun p => p.2.length) e
  simp only [FR.val] at e2
  omega

set_option maxRecDepth 100000 in
set_option maxHeartbeats 4000000 in
theorem walk (w : World) (A : Option Addr) (m c : Nat) (hc : m ≤ c) (hm : m ≤ maxLen) (hA : RdB w A m) :
    Calls Tryd.prog 6 #[.slice A m c] w fun e w' => e = .returned (.bool true) ∧ Below w.heap.size w w' := by
  unfold maxLen at hm
  by_cases hs : m ≤ 1048576
  case neg =>
    go_enter Tryd.func6, Tryd.ntmps6
    go_wp2_with fail
    go_ret
    exact ⟨rfl, Below.refl _ _⟩
  have HA := Lib.hid hA; clear hA
  have hb : Below w.heap.size w w := Below.refl _ _
  go_enter Tryd.func6, Tryd.ntmps6
  obtain ⟨i0, hi0, hz0, hz1, hz2⟩ := info_parts info_int
  have HI := Lib.hid (And.intro hi0 (And.intro hz0 (And.intro hz1 hz2))); clear hi0 hz0 hz1 hz2
  go_wp2_with fail
  refine (dDrawReadFrames A m c w hc hs HA.out).mono ?_
  rintro e w1 ⟨l, B, d, rfl, hl, hF, ho, hbn⟩
  replace hb := seqB hb hbn
  clear hbn
  clear HA
  have hld := hF.1
  go_wp2_with fail
  refine (implRFs B l.length d l _ rfl (by omega) hld ho.rd).mono ?_
  rintro e w2 ⟨BX, dX, rsX, rfl, hrX, hvX, hbn⟩
  replace hb := seqB hb hbn
  replace ho := ho.below hbn
  clear hbn
  have hoX := hrX.own.rd
  obtain ⟨hlX, htX, hKX⟩ := rdFs_small rfl hvX
  obtain ⟨hall, hcat⟩ := rdFs_all l
  have HVX0 := Lib.hid hvX
  clear hrX hvX
  generalize hS : (rdFs l).2 = S at *
  have HS := Lib.hid hS; clear hS
  generalize hFF : (rdFs l).1 = F at *
  have HFF := Lib.hid hFF; clear hFF
  have HVX : Hid (vals rsX = F) := HVX0
  clear HVX0
  generalize hK : rsX.length = K at *
  have HK := Lib.hid hK; clear hK
  have HLX := Lib.hid hlX; clear hlX htX
  have HALL := Lib.hid hall; clear hall
  have HCAT := Lib.hid hcat; clear hcat
  have hSl : (catB F).length ≤ l.length := by have := HCAT.out; omega
  go_wp2_with fail
  refine (specRFs B l.length d l _ rfl (by omega) hld ho.rd).mono ?_
  rintro e w3 ⟨BY, dY, rsY, rfl, hrY, hvY, hbn⟩
  replace hb := seqB hb hbn
  replace ho := ho.below hbn
  replace hoX := hoX.below hbn
  clear hbn
  have HKY : Hid (rsY.length = K) := by rw [Hid, ← HK.out, ← vals_length, ← vals_length, hvY, HVX.out, HFF.out]
  have HVY : Hid (vals rsX = vals rsY) := by rw [Hid, hvY, HVX.out, HFF.out]
  have hoY := hrY.own.rd
  rw [HKY.out, HS.out]
  clear hrY hvY
  have hne : ((S : Int) != (S : Int)) = false := by simp
  go_wp2_with fail
  refine (sameFrS BX BY rsX rsY K dX dY _ HK.out HKY.out HVY.out (by omega) HLX.out hoX hoY).mono ?_
  rintro e w4 ⟨rfl, hbn⟩
  replace hb := seqB hb hbn
  replace ho := ho.below hbn
  replace hoX := hoX.below hbn
  replace hoY := hoY.below hbn
  clear hbn
  clear hoY hne
  have hlit : (w4.alloc (.cells #[] 3)).ownsRow w4.heap.size 3 1 (.slice (some ⟨w4.heap.size, 0, none⟩) 0 0) 0 [] := World.ownsRow_lit w4 #[] 0 (Nat.le_refl _) (Nat.zero_le _) rfl
  have HLI := Lib.hid hlit; clear hlit
  have HOX := Lib.hid hoX; clear hoX ho
  have HB := Lib.hid hb; clear hb
  go_wp2_with fail
  go_loopw [8, 9] (fun v i wr => ∃ (k : Nat), k ≤ K ∧ i = .int .i64 k ∧ (∃ Bb db, v = .slice Bb (catB (F.take k)).length db ∧ Hid (wr.ownsRow w4.heap.size 3 1 (.slice Bb (catB (F.take k)).length db) (catB (F.take k)).length (ints (catB (F.take k))))) ∧ Hid (Below w4.heap.size w4 wr)) (fun _ i _ => K - (intOf i).toNat)
  case atStart => exact ⟨0, by omega, rfl, ⟨_, _, rfl, HLI.out⟩, allocB (Below.refl _ _) _⟩
  case round =>
    clear HLI
    obtain ⟨k, hk, rfl, ⟨Bb, db, rfl, HW⟩, hbw⟩ := hrel
    by_cases hlt : k < K
    · skip
      obtain ⟨b, o, rfl, hbl, hc0, hc1, HRa⟩ := HOX.out.at (k := k) (by rw [HK.out]; exact hlt)
      have hlen := len_at HLX.out k
      have hval := vals_get HVX.out k (by rw [HK.out]; exact hlt)
      have HCT := Lib.hid (catB_take k hval)
      have hcl := catB_take_len F k
      generalize rsX.getD k FR.zero = r at *
      obtain ⟨a, RA, rc, lr⟩ := r
      dsimp only [FR.val] at hc0 hc1 HRa hlen hval HCT
      clear hval
      have hd0 := (hbw.out.cell (p := ⟨b, o + k * 2, none⟩) hbl).trans hc0; clear hc0
      have hd1 := (hbw.out.cell (p := ⟨b, o + k * 2 + 1, none⟩) hbl).trans hc1; clear hc1
      have hkk : (k : Int) < (K : Int) := by omega
      go_wp2_with fail
      refine (implFBr a RA lr.length rc lr _ rfl (by omega) (HRa.out.below hbw.out)).mono ?_
      rintro e w9 ⟨B3, c3, rfl, hr3, hbn⟩
      clear hd0 hd1
      have hfl := frmBytes_len a lr
      generalize frmBytes a lr = FB at *
      have hrd3 := rd_of_row hr3
      have hnil3 := Lib.hid (row_none hr3)
      have hown := row_below HW.out hbn
      have hbw9 := hbw.out.trans (hbn.mono hbw.out.size)
      have hbs := hbw9.size
      clear hr3 hbn HW
      generalize hCl : (catB (F.take k)).length = Cl at *
      have HCl := Lib.hid hCl; clear hCl
      go_wp2_with (at_builtin; refine wpList_appN w9 rfl _ _ _ rfl w4.heap.size 3 i0 _ 1 8 Tryd.underlying23 HI.out rfl (by omega) (.slice Bb Cl db) Cl _ rfl hown B3 FB.length c3 (ints FB) rfl (by rw [ints_length]; omega) hrd3 hnil3.out (ints_one _) (by omega) (by omega) hbs ?_; intro v' w10 hown9 hg9)
      have hbw10 := grown_row hbw9 rfl hown hg9
      obtain ⟨B9, c9, rfl, hr9⟩ := row_is (n' := (catB (F.take (k + 1))).length) (cs' := ints (catB (F.take (k + 1)))) hown9 (by rw [HCT.out, List.length_append, HCl.out]) (by rw [HCT.out]; exact ints_app _ _)
      have HW9 := Lib.hid hr9
      clear hg9 hown9 hown hrd3 hr9 hbw9
      go_roundw
      case rel => exact ⟨k + 1, by omega, by go_num, ⟨_, _, rfl, HW9⟩, hbw10⟩
      case measure => simp [intOf]; omega
    · skip
      have hkK : k = K := by omega
      have HFT : Hid (F.take k = F) := by rw [Hid, hkK]; exact List.take_of_length_le (by rw [← HVX.out, vals_length, HK.out]; exact Nat.le_refl _)
      rw [HFT.out] at HW ⊢
      have hkk : ¬ ((k : Int) < (K : Int)) := by omega
      have HR := Lib.hid (rdFs_cat F HALL.out)
      have HCATL := HCAT
      generalize hCB : catB F = CB at *
      generalize hCl : CB.length = Cl at *
      have HCl := Lib.hid hCl; have HCB := Lib.hid hCB; clear hCl hCB
      clear hkK
      have hox := HOX.out.below hbw.out
      have hbb := seqB HB.out hbw.out
      clear hbw
      go_wp2_with fail
      refine (implRFs Bb Cl db CB _ HCl.out (by omega) (row_cap HW.out) (rd_of_row HW.out)).mono ?_
      rintro e w5 ⟨BZ, dZ, rsZ, rfl, hrZ, hvZ, hbn⟩
      replace hbb := seqB hbb hbn
      replace hox := hox.below hbn
      clear hbn
      rw [HR.out] at hvZ ⊢
      have HKZ : Hid (rsZ.length = K) := by rw [Hid, ← HK.out, ← vals_length, ← vals_length, hvZ, HVX.out]
      have HVZ : Hid (vals rsZ = vals rsX) := by rw [Hid, hvZ, HVX.out]
      have hoZ := hrZ.own.rd
      rw [HKZ.out]
      clear hrZ hvZ HW
      have HLZ : Hid (∀ r ∈ rsZ, r.l.length ≤ 12) := len_vals HVZ.out HLX.out
      have hS80 : S ≤ 80 := by have := HCAT.out; omega
      have hfin : ((Cl : Int) + (S : Int) == (l.length : Int)) = true := by have := HCAT.out; simp; omega
      go_wp2_with fail
      refine (sameFrS BZ BX rsZ rsX K dZ dX _ HKZ.out HK.out HVZ.out (by omega) HLZ.out hoZ hox).mono ?_
      rintro e w6 ⟨rfl, hbn⟩
      replace hbb := seqB hbb hbn
      replace hox := hox.below hbn
      replace hoZ := hoZ.below hbn
      clear hbn
      clear hoZ hox
      go_wp2_with fail
      refine (aliveC _).mono ?_
      rintro e w7 ⟨rfl, hbn⟩
      replace hbb := seqB hbb hbn
      clear hbn
      go_wp2_with fail
      go_ret
      exact ⟨ret_bool (by simp), hbb⟩
end Go.Proofs.YtddiloillgbneaaDoor.lRFs
