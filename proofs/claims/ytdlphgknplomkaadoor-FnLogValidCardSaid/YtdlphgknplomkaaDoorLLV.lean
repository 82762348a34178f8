/- The walk of FnLogValid: it returns true, and writes nothing that was there. -/
import Derived.Test.YtdlphgknplomkaaDoorDrH
import Derived.Test.YtdlphgknplomkaaDoorSmE
namespace Go.Proofs.YtdlphgknplomkaaDoor.lLV
open Go.RowKit Go.Proofs.YtdlphgknplomkaaDoor

theorem implLVis (l : List Entry) (r : Bool) (A : Option Addr) (n c : Nat) (w : World) (h : logB l = r) (hn : l.length = n) (hm : n ≤ 1048576) (hA : Rd w A (flatEntry l)) (hcap : n ≤ c) :
    Calls Tryd.prog 15 #[.slice A n c] w fun e w' => e = .returned (.bool r) ∧ Below w.heap.size w w' := by
  subst h; exact implLV A n c l w hn hm hA hcap
theorem rd_keep {w w' : World} {v : Value} {g : Nat} {cs : Array Value} {T : TypeId} (hg : w.grownBy w' v.ownBlock) (h : Hid (w.heap[g]? = some (.cells cs T (0, 0)))) (hne : v.ownBlock ≠ some g) : Rd w' (some ⟨g, 0, none⟩) cs.toList := by
  have h2 : w'.heap[g]? = some (.cells cs T (0, 0)) := (hg.block g (blk_in h.out) (fun e => hne e.symm)).trans h.out
  intro _
  refine ⟨g, 0, rfl, blk_in h2, fun k u hu => ?_⟩
  rw [Nat.zero_add, cell_of_row w' g k cs T (0, 0) h2]
  simpa using hu

set_option maxRecDepth 100000 in
set_option maxHeartbeats 4000000 in
theorem walk (w : World) (A : Option Addr) (m c : Nat) (hc : m ≤ c) (hm : m ≤ maxLen) (hA : RdB w A m) :
    Calls Tryd.prog 7 #[.slice A m c] w fun e w' => e = .returned (.bool true) ∧ Below w.heap.size w w' := by
  unfold maxLen at hm
  by_cases hs : m ≤ 1048576
  case neg =>
    go_enter Tryd.func7, Tryd.ntmps7
    go_wp2_with fail
    go_ret
    exact ⟨rfl, Below.refl _ _⟩
  have HA := Lib.hid hA; clear hA
  have hb : Below w.heap.size w w := Below.refl _ _
  go_enter Tryd.func7, Tryd.ntmps7
  obtain ⟨i0, hi0, hz0, hz1, hz2⟩ := info_parts info_Entry
  have HI := Lib.hid (And.intro hi0 (And.intro hz0 (And.intro hz1 hz2))); clear hi0 hz0 hz1 hz2
  go_wp2_with fail
  refine (dDrawLogValid A m c w hc hs HA.out).mono ?_
  rintro e w1 ⟨l, B, d, rfl, hl, hF, ho, hbn⟩
  replace hb := seqB hb hbn
  clear hbn
  clear HA
  have hld := hF.1
  go_wp2_with fail
  refine (implLV B l.length d l _ rfl (by omega) ho.rd hld).mono ?_
  rintro e w2 ⟨rfl, hbn⟩
  replace hb := seqB hb hbn
  replace ho := ho.below hbn
  clear hbn
  generalize hV : logB l = b at *
  have HV := Lib.hid hV; clear hV
  have hne : (b != b) = false := by simp
  go_wp2_with fail
  refine (specLV B l.length d l _ rfl (by omega) ho.rd).mono ?_
  rintro e w3 ⟨rfl, hbn⟩
  replace hb := seqB hb hbn
  replace ho := ho.below hbn
  clear hbn
  rw [HV.out]
  cases b with
  | false =>
    go_wp2_with fail
    refine (implLV none 0 0 [] _ rfl (by omega) Rd.nil (by omega)).mono ?_
    rintro e w4 ⟨rfl, hbn⟩
    replace hb := seqB hb hbn
    replace ho := ho.below hbn
    clear hbn
    rw [log_nil]
    go_wp2_with fail
    refine (aliveC _).mono ?_
    rintro e w5 ⟨rfl, hbn⟩
    replace hb := seqB hb hbn
    replace ho := ho.below hbn
    clear hbn
    go_wp2_with fail
    go_ret
    exact ⟨ret_bool (by simp), hb⟩
  | true =>
    by_cases h0 : l.length = 0
    · have h0' : ((l.length : Int) == 0) = true := by simp [h0]
      obtain rfl : l = [] := List.eq_nil_of_length_eq_zero h0
      clear h0 h0'
      go_wp2_with fail
      refine (implLV none 0 0 [] _ rfl (by omega) Rd.nil (by omega)).mono ?_
      rintro e w4 ⟨rfl, hbn⟩
      replace hb := seqB hb hbn
      replace ho := ho.below hbn
      clear hbn
      rw [log_nil]
      go_wp2_with fail
      refine (aliveC _).mono ?_
      rintro e w5 ⟨rfl, hbn⟩
      replace hb := seqB hb hbn
      replace ho := ho.below hbn
      clear hbn
      go_wp2_with fail
      go_ret
      exact ⟨ret_bool (by simp), hb⟩
    · have h0' : ((l.length : Int) == 0) = false := beq_eq_false_iff_ne.2 (by omega)
      have HBAD := Lib.hid (log_twice (l := l) (by omega))
      have HDR := Lib.hid (log_drop HV.out 1)
      have hcap := hF.1
      obtain ⟨g, rfl, hgw, hgl⟩ := ho.form (by omega)
      obtain ⟨b, o, eb, hbl, hc0, hc1, hc2, hc3⟩ := (ho.rd).atEntry (k := l.length - 1) (by omega)
      cases eb
      rw [Nat.zero_add] at hc0 hc1 hc2 hc3
      have HLAST : Hid (logB (l ++ [l.getD (l.length - 1) Entry.zero]) = false) := HBAD
      clear HBAD
      generalize l.getD (l.length - 1) Entry.zero = r at *
      obtain ⟨r0, r1, r2, r3⟩ := r
      dsimp only at hc0 hc1 hc2 hc3
      have hN1 : l.length - 1 < l.length := by omega
      have hsub : IntKind.i64.wrap ((l.length : Int) - 1) = ((l.length - 1 : Nat) : Int) := by rw [show (l.length : Int) - 1 = ((l.length - 1 : Nat) : Int) by omega]; exact IntWalk.i64_in _ (by omega)
      have HRL := Lib.hid ho.rd
      generalize hM : l.length = M at *
      have HM := Lib.hid hM; clear hM
      have HC := Lib.hid (And.intro hc0 (And.intro hc1 (And.intro hc2 hc3)))
      have hM1 : (1 : Int) ≤ (M : Int) := by omega
      have hMd : (M : Int) ≤ (d : Int) := by omega
      have hd1 : (1 : Int) ≤ (d : Int) := by omega
      have hbd := drew1B hb
      skip
      by_cases hdd : d = 1
      · skip
        subst hdd
        have hMM : M = 1 := by omega
        subst hMM
        clear hM1 hMd hd1
        have hwr0 : IntKind.i64.wrap 0 = 0 := IntWalk.i64_in _ (by omega)
        go_wp2_with fail
        have HDL : Hid ((l.drop 1) = []) := List.drop_eq_nil_of_le (by rw [HM.out]; omega)
        have HRX : Hid (Rd w3.drew (some ⟨g, 0, none⟩) (flatEntry (l.drop 1))) := by rw [HDL.out]; exact Rd.nil
        have HC1 : Hid (Calls Tryd.prog 15 #[.slice (some ⟨g, 0, none⟩) 0 0] w3.drew fun e w' => e = .returned (.bool true) ∧ Below w3.heap.size w3.drew w') := implLVis (l.drop 1) true (some ⟨g, 0, none⟩) 0 0 w3.drew HDR.out (by simp [HM.out]) (by omega) HRX.out (by omega)
        go_region_law (first | (go_simp; go_at_call 15; refine (implLVis (l ++ [⟨r0, r1, r2, r3⟩]) false B11 (1 + 1) d11 w11 HLAST.out (by simp [HM.out]) (by omega) (rd_of_row HR11.out) (row_cap HR11.out)).mono ?_; rintro e w12 ⟨rfl, hb12⟩) | (refine step_appN _ rfl _ _ _ rfl w5.heap.size 25 i0 _ 4 32 Tryd.underlying23 HI.out rfl (by omega) (.slice B9 1 d9) 1 (flatEntry l) rfl HO9.out _ 1 1 [.int .i64 r0, .int .i64 r1, .int .i64 r2, .int .i64 r3] rfl rfl HRD9.out (fun e => by cases e) (by simp [Value.oneCell']) (by omega) (by omega) hb10.size ?_; intro v2 w11 hown11 hg11; have hb11 := grown_row hb10 rfl HO9.out hg11; obtain ⟨B11, d11, rfl, hr11⟩ := row_is (n' := 1 + 1) (cs' := flatEntry (l ++ [⟨r0, r1, r2, r3⟩])) hown11 rfl (by rw [← flatE_app]; rfl); have HR11 := Lib.hid hr11; clear hown11 hr11 HO9 HRD9) | (refine step_appN (w5.alloc (.cells #[] 25)) rfl _ _ _ rfl w5.heap.size 25 i0 _ 4 32 Tryd.underlying23 HI.out rfl (by omega) _ 0 _ rfl HOa.out (some ⟨g, 0, none⟩) 1 1 (flatEntry l) rfl (flatE_len l 1 HM.out) HRa.out (fun e => by cases e) (flatE_one l) (by omega) (by omega) (by simp; try omega) ?_; intro v' w9 hown9 hg9; obtain ⟨B9, d9, rfl, hr9⟩ := row_is (n' := 1) (cs' := flatEntry l) hown9 (by omega) rfl; have hb9 : Below w5.heap.size w5 w9 := grown_row (allocB (Below.refl _ _) _) rfl HOa.out hg9; have HO9 : Hid ((w9.alloc (.cells #[.int .i64 r0, .int .i64 r1, .int .i64 r2, .int .i64 r3] 25)).ownsRow w5.heap.size 25 4 (.slice B9 1 d9) 1 (flatEntry l)) := Lib.hid (hr9.alloc (.cells #[.int .i64 r0, .int .i64 r1, .int .i64 r2, .int .i64 r3] 25)); have HRD9 := Lib.hid (rd_new w9 #[.int .i64 r0, .int .i64 r1, .int .i64 r2, .int .i64 r3] 25); have hb10 := hb9.trans ((allocB (Below.refl w9.heap.size w9) (.cells #[.int .i64 r0, .int .i64 r1, .int .i64 r2, .int .i64 r3] 25)).mono hb9.size); have m0 := (hb9.cell (p := ⟨g, 0, none⟩) hg5).trans k0; have m1 := (hb9.cell (p := ⟨g, 1, none⟩) hg5).trans k1; have m2 := (hb9.cell (p := ⟨g, 2, none⟩) hg5).trans k2; have m3 := (hb9.cell (p := ⟨g, 3, none⟩) hg5).trans k3; clear hown9 hr9 HOa HOb HOc HRa HRb HRc) | (refine step_appN ((w5.alloc (.cells #[] 25)).alloc (.cells #[.int .i64 r0, .int .i64 r1, .int .i64 r2, .int .i64 r3] 25)) rfl _ _ _ rfl w5.heap.size 25 i0 _ 4 32 Tryd.underlying23 HI.out rfl (by omega) _ 0 _ rfl HOb.out (some ⟨g, 0, none⟩) 1 1 (flatEntry l) rfl (flatE_len l 1 HM.out) HRb.out (fun e => by cases e) (flatE_one l) (by omega) (by omega) (by simp; try omega) ?_; intro v' w9 hown9 hg9; obtain ⟨B9, d9, rfl, hr9⟩ := row_is (n' := 1) (cs' := flatEntry l) hown9 (by omega) rfl; have hb10 : Below w5.heap.size w5 w9 := grown_row (allocB (allocB (Below.refl _ _) _) _) rfl HOb.out hg9; have HO9 : Hid (w9.ownsRow w5.heap.size 25 4 (.slice B9 1 d9) 1 (flatEntry l)) := Lib.hid hr9; have HRD9 := Lib.hid (rd_keep hg9 (g := w5.heap.size + 1) (cs := #[.int .i64 r0, .int .i64 r1, .int .i64 r2, .int .i64 r3]) (T := 25) (by have h := newboxL (w5.alloc (.cells #[] 25)) (.cells #[.int .i64 r0, .int .i64 r1, .int .i64 r2, .int .i64 r3] 25); rwa [show (w5.alloc (.cells #[] 25)).heap.size = w5.heap.size + 1 by simp] at h) (fun e => by have := own_blk e; omega)); clear hown9 hr9 HOa HOb HOc HRa HRb HRc) | (refine step_appN ((w5.alloc (.cells #[.int .i64 r0, .int .i64 r1, .int .i64 r2, .int .i64 r3] 25)).alloc (.cells #[] 25)) rfl _ _ _ rfl w5.heap.size 25 i0 _ 4 32 Tryd.underlying23 HI.out rfl (by omega) _ 0 _ rfl HOc.out (some ⟨g, 0, none⟩) 1 1 (flatEntry l) rfl (flatE_len l 1 HM.out) HRc.out (fun e => by cases e) (flatE_one l) (by omega) (by omega) (by simp; try omega) ?_; intro v' w9 hown9 hg9; obtain ⟨B9, d9, rfl, hr9⟩ := row_is (n' := 1) (cs' := flatEntry l) hown9 (by omega) rfl; have hb10 : Below w5.heap.size w5 w9 := grown_row (allocB (allocB (Below.refl _ _) _) _) rfl HOc.out hg9; have HO9 : Hid (w9.ownsRow w5.heap.size 25 4 (.slice B9 1 d9) 1 (flatEntry l)) := Lib.hid hr9; have HRD9 := Lib.hid (rd_keep hg9 (g := w5.heap.size) (cs := #[.int .i64 r0, .int .i64 r1, .int .i64 r2, .int .i64 r3]) (T := 25) (be_boxL (newboxL w5 (.cells #[.int .i64 r0, .int .i64 r1, .int .i64 r2, .int .i64 r3] 25)) (allocB (Below.refl _ _) _)) (fun e => by have := own_blk e; omega)); clear hown9 hr9 HOa HOb HOc HRa HRb HRc) | (go_simp; go_at_call 15; refine Calls.mono (by with_reducible exact HC1.out) ?_; rintro e w5 ⟨rfl, hb5⟩; have hb6 := hbd.trans (hb5.mono hbd.size); have hr6 := HRL.out.below (Below.trans (drew1B (Below.refl _ _)) hb5); have hz5 := hb5.size; have hg5 : g < w5.heap.size := Nat.lt_of_lt_of_le hbl hb5.size; have k0 : w5.cell? ⟨g, 0, none⟩ = some (.int .i64 r0) := (hb5.cell (p := ⟨g, 0, none⟩) hbl).trans HC.out.1; have k1 : w5.cell? ⟨g, 1, none⟩ = some (.int .i64 r1) := (hb5.cell (p := ⟨g, 1, none⟩) hbl).trans HC.out.2.1; have k2 : w5.cell? ⟨g, 2, none⟩ = some (.int .i64 r2) := (hb5.cell (p := ⟨g, 2, none⟩) hbl).trans HC.out.2.2.1; have k3 : w5.cell? ⟨g, 3, none⟩ = some (.int .i64 r3) := (hb5.cell (p := ⟨g, 3, none⟩) hbl).trans HC.out.2.2.2; have HOa : Hid ((w5.alloc (.cells #[] 25)).ownsRow w5.heap.size 25 4 (.slice (some ⟨w5.heap.size, 0, none⟩) 0 0) 0 []) := World.ownsRow_lit w5 #[] 0 (Nat.le_refl _) (Nat.zero_le _) rfl; have HOb : Hid (((w5.alloc (.cells #[] 25)).alloc (.cells #[.int .i64 r0, .int .i64 r1, .int .i64 r2, .int .i64 r3] 25)).ownsRow w5.heap.size 25 4 (.slice (some ⟨w5.heap.size, 0, none⟩) 0 0) 0 []) := Lib.hid (HOa.out.alloc (.cells #[.int .i64 r0, .int .i64 r1, .int .i64 r2, .int .i64 r3] 25)); have HOc : Hid (((w5.alloc (.cells #[.int .i64 r0, .int .i64 r1, .int .i64 r2, .int .i64 r3] 25)).alloc (.cells #[] 25)).ownsRow w5.heap.size 25 4 (.slice (some ⟨w5.heap.size + 1, 0, none⟩) 0 0) 0 []) := (by rw [Hid]; simpa using World.ownsRow_lit (base := w5.heap.size) (e := 25) (size := 4) (w5.alloc (.cells #[.int .i64 r0, .int .i64 r1, .int .i64 r2, .int .i64 r3] 25)) #[] 0 (by simp) (Nat.zero_le _) rfl); have HRa := Lib.hid (hr6.below (allocB (Below.refl _ _) (.cells #[] 25))); have HRb := Lib.hid (HRa.out.below (allocB (Below.refl _ _) (.cells #[.int .i64 r0, .int .i64 r1, .int .i64 r2, .int .i64 r3] 25))); have HRc := Lib.hid ((hr6.below (allocB (Below.refl _ _) (.cells #[.int .i64 r0, .int .i64 r1, .int .i64 r2, .int .i64 r3] 25))).below (allocB (Below.refl _ _) (.cells #[] 25))); clear hr6))
        all_goals
          go_wp2_with fail
          go_ret
          exact ⟨rfl, hb6.trans ((hb11.trans (hb12.mono hb11.size)).mono hb6.size)⟩
      · skip
        go_wp2_with fail
        have HR1 : Hid (Rd w3.drew (some ⟨g, 4, none⟩) (flatEntry (l.drop 1))) := by have := flatE_drop HRL.out 1; exact this
        have HRX : Hid (Rd w3.drew (some ⟨g, 4, none⟩) (flatEntry (l.drop 1))) := HR1
        have HC1 : Hid (Calls Tryd.prog 15 #[.slice (some ⟨g, 4, none⟩) (M - 1) (d - 1)] w3.drew fun e w' => e = .returned (.bool true) ∧ Below w3.heap.size w3.drew w') := implLVis (l.drop 1) true (some ⟨g, 4, none⟩) (M - 1) (d - 1) w3.drew HDR.out (by simp [HM.out]) (by omega) HRX.out (by omega)
        go_region_law (first | (go_simp; go_at_call 15; refine (implLVis (l ++ [⟨r0, r1, r2, r3⟩]) false B11 (M + 1) d11 w11 HLAST.out (by simp [HM.out]) (by omega) (rd_of_row HR11.out) (row_cap HR11.out)).mono ?_; rintro e w12 ⟨rfl, hb12⟩) | (refine step_appN _ rfl _ _ _ rfl w5.heap.size 25 i0 _ 4 32 Tryd.underlying23 HI.out rfl (by omega) (.slice B9 M d9) M (flatEntry l) rfl HO9.out _ 1 1 [.int .i64 r0, .int .i64 r1, .int .i64 r2, .int .i64 r3] rfl rfl HRD9.out (fun e => by cases e) (by simp [Value.oneCell']) (by omega) (by omega) hb10.size ?_; intro v2 w11 hown11 hg11; have hb11 := grown_row hb10 rfl HO9.out hg11; obtain ⟨B11, d11, rfl, hr11⟩ := row_is (n' := M + 1) (cs' := flatEntry (l ++ [⟨r0, r1, r2, r3⟩])) hown11 rfl (by rw [← flatE_app]; rfl); have HR11 := Lib.hid hr11; clear hown11 hr11 HO9 HRD9) | (refine step_appN (w5.alloc (.cells #[] 25)) rfl _ _ _ rfl w5.heap.size 25 i0 _ 4 32 Tryd.underlying23 HI.out rfl (by omega) _ 0 _ rfl HOa.out (some ⟨g, 0, none⟩) M d (flatEntry l) rfl (flatE_len l M HM.out) HRa.out (fun e => by cases e) (flatE_one l) (by omega) (by omega) (by simp; try omega) ?_; intro v' w9 hown9 hg9; obtain ⟨B9, d9, rfl, hr9⟩ := row_is (n' := M) (cs' := flatEntry l) hown9 (by omega) rfl; have hb9 : Below w5.heap.size w5 w9 := grown_row (allocB (Below.refl _ _) _) rfl HOa.out hg9; have HO9 : Hid ((w9.alloc (.cells #[.int .i64 r0, .int .i64 r1, .int .i64 r2, .int .i64 r3] 25)).ownsRow w5.heap.size 25 4 (.slice B9 M d9) M (flatEntry l)) := Lib.hid (hr9.alloc (.cells #[.int .i64 r0, .int .i64 r1, .int .i64 r2, .int .i64 r3] 25)); have HRD9 := Lib.hid (rd_new w9 #[.int .i64 r0, .int .i64 r1, .int .i64 r2, .int .i64 r3] 25); have hb10 := hb9.trans ((allocB (Below.refl w9.heap.size w9) (.cells #[.int .i64 r0, .int .i64 r1, .int .i64 r2, .int .i64 r3] 25)).mono hb9.size); have m0 := (hb9.cell (p := ⟨g, (M - 1) * 4, none⟩) hg5).trans k0; have m1 := (hb9.cell (p := ⟨g, (M - 1) * 4 + 1, none⟩) hg5).trans k1; have m2 := (hb9.cell (p := ⟨g, (M - 1) * 4 + 2, none⟩) hg5).trans k2; have m3 := (hb9.cell (p := ⟨g, (M - 1) * 4 + 3, none⟩) hg5).trans k3; clear hown9 hr9 HOa HOb HOc HRa HRb HRc) | (refine step_appN ((w5.alloc (.cells #[] 25)).alloc (.cells #[.int .i64 r0, .int .i64 r1, .int .i64 r2, .int .i64 r3] 25)) rfl _ _ _ rfl w5.heap.size 25 i0 _ 4 32 Tryd.underlying23 HI.out rfl (by omega) _ 0 _ rfl HOb.out (some ⟨g, 0, none⟩) M d (flatEntry l) rfl (flatE_len l M HM.out) HRb.out (fun e => by cases e) (flatE_one l) (by omega) (by omega) (by simp; try omega) ?_; intro v' w9 hown9 hg9; obtain ⟨B9, d9, rfl, hr9⟩ := row_is (n' := M) (cs' := flatEntry l) hown9 (by omega) rfl; have hb10 : Below w5.heap.size w5 w9 := grown_row (allocB (allocB (Below.refl _ _) _) _) rfl HOb.out hg9; have HO9 : Hid (w9.ownsRow w5.heap.size 25 4 (.slice B9 M d9) M (flatEntry l)) := Lib.hid hr9; have HRD9 := Lib.hid (rd_keep hg9 (g := w5.heap.size + 1) (cs := #[.int .i64 r0, .int .i64 r1, .int .i64 r2, .int .i64 r3]) (T := 25) (by have h := newboxL (w5.alloc (.cells #[] 25)) (.cells #[.int .i64 r0, .int .i64 r1, .int .i64 r2, .int .i64 r3] 25); rwa [show (w5.alloc (.cells #[] 25)).heap.size = w5.heap.size + 1 by simp] at h) (fun e => by have := own_blk e; omega)); clear hown9 hr9 HOa HOb HOc HRa HRb HRc) | (refine step_appN ((w5.alloc (.cells #[.int .i64 r0, .int .i64 r1, .int .i64 r2, .int .i64 r3] 25)).alloc (.cells #[] 25)) rfl _ _ _ rfl w5.heap.size 25 i0 _ 4 32 Tryd.underlying23 HI.out rfl (by omega) _ 0 _ rfl HOc.out (some ⟨g, 0, none⟩) M d (flatEntry l) rfl (flatE_len l M HM.out) HRc.out (fun e => by cases e) (flatE_one l) (by omega) (by omega) (by simp; try omega) ?_; intro v' w9 hown9 hg9; obtain ⟨B9, d9, rfl, hr9⟩ := row_is (n' := M) (cs' := flatEntry l) hown9 (by omega) rfl; have hb10 : Below w5.heap.size w5 w9 := grown_row (allocB (allocB (Below.refl _ _) _) _) rfl HOc.out hg9; have HO9 : Hid (w9.ownsRow w5.heap.size 25 4 (.slice B9 M d9) M (flatEntry l)) := Lib.hid hr9; have HRD9 := Lib.hid (rd_keep hg9 (g := w5.heap.size) (cs := #[.int .i64 r0, .int .i64 r1, .int .i64 r2, .int .i64 r3]) (T := 25) (be_boxL (newboxL w5 (.cells #[.int .i64 r0, .int .i64 r1, .int .i64 r2, .int .i64 r3] 25)) (allocB (Below.refl _ _) _)) (fun e => by have := own_blk e; omega)); clear hown9 hr9 HOa HOb HOc HRa HRb HRc) | (go_simp; go_at_call 15; refine Calls.mono (by with_reducible exact HC1.out) ?_; rintro e w5 ⟨rfl, hb5⟩; have hb6 := hbd.trans (hb5.mono hbd.size); have hr6 := HRL.out.below (Below.trans (drew1B (Below.refl _ _)) hb5); have hz5 := hb5.size; have hg5 : g < w5.heap.size := Nat.lt_of_lt_of_le hbl hb5.size; have k0 : w5.cell? ⟨g, (M - 1) * 4, none⟩ = some (.int .i64 r0) := (hb5.cell (p := ⟨g, (M - 1) * 4, none⟩) hbl).trans HC.out.1; have k1 : w5.cell? ⟨g, (M - 1) * 4 + 1, none⟩ = some (.int .i64 r1) := (hb5.cell (p := ⟨g, (M - 1) * 4 + 1, none⟩) hbl).trans HC.out.2.1; have k2 : w5.cell? ⟨g, (M - 1) * 4 + 2, none⟩ = some (.int .i64 r2) := (hb5.cell (p := ⟨g, (M - 1) * 4 + 2, none⟩) hbl).trans HC.out.2.2.1; have k3 : w5.cell? ⟨g, (M - 1) * 4 + 3, none⟩ = some (.int .i64 r3) := (hb5.cell (p := ⟨g, (M - 1) * 4 + 3, none⟩) hbl).trans HC.out.2.2.2; have HOa : Hid ((w5.alloc (.cells #[] 25)).ownsRow w5.heap.size 25 4 (.slice (some ⟨w5.heap.size, 0, none⟩) 0 0) 0 []) := World.ownsRow_lit w5 #[] 0 (Nat.le_refl _) (Nat.zero_le _) rfl; have HOb : Hid (((w5.alloc (.cells #[] 25)).alloc (.cells #[.int .i64 r0, .int .i64 r1, .int .i64 r2, .int .i64 r3] 25)).ownsRow w5.heap.size 25 4 (.slice (some ⟨w5.heap.size, 0, none⟩) 0 0) 0 []) := Lib.hid (HOa.out.alloc (.cells #[.int .i64 r0, .int .i64 r1, .int .i64 r2, .int .i64 r3] 25)); have HOc : Hid (((w5.alloc (.cells #[.int .i64 r0, .int .i64 r1, .int .i64 r2, .int .i64 r3] 25)).alloc (.cells #[] 25)).ownsRow w5.heap.size 25 4 (.slice (some ⟨w5.heap.size + 1, 0, none⟩) 0 0) 0 []) := (by rw [Hid]; simpa using World.ownsRow_lit (base := w5.heap.size) (e := 25) (size := 4) (w5.alloc (.cells #[.int .i64 r0, .int .i64 r1, .int .i64 r2, .int .i64 r3] 25)) #[] 0 (by simp) (Nat.zero_le _) rfl); have HRa := Lib.hid (hr6.below (allocB (Below.refl _ _) (.cells #[] 25))); have HRb := Lib.hid (HRa.out.below (allocB (Below.refl _ _) (.cells #[.int .i64 r0, .int .i64 r1, .int .i64 r2, .int .i64 r3] 25))); have HRc := Lib.hid ((hr6.below (allocB (Below.refl _ _) (.cells #[.int .i64 r0, .int .i64 r1, .int .i64 r2, .int .i64 r3] 25))).below (allocB (Below.refl _ _) (.cells #[] 25))); clear hr6))
        all_goals
          go_wp2_with fail
          go_ret
          exact ⟨rfl, hb6.trans ((hb11.trans (hb12.mono hb11.size)).mono hb6.size)⟩
end Go.Proofs.YtdlphgknplomkaaDoor.lLV
