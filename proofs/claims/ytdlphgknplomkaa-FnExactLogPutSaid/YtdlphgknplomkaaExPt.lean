/- The walk of FnExactLogPut: it returns true, and writes nothing that was there. -/
import Derived.Test.YtdlphgknplomkaaLogM
namespace Go.Proofs.Ytdlphgknplomkaa.exPt
open Go.RowKit Go.Proofs.Ytdlphgknplomkaa
theorem toSg (A : Option Addr) (n c : Nat) (l : List Entry) (w : World) (hn : l.length = n) (hm : n ≤ 1048576) (hA : Rd w A (flatEntry l)) :
    Calls Try.prog 7 #[.slice A n c] w fun e w' => ∃ g, e = .returned (.slice (some ⟨g, 0, none⟩) n n) ∧ Own w' w.heap.size 30 4 (some ⟨g, 0, none⟩) n (flatEntry l) ∧ Below w.heap.size w w' := by
  refine (toEntryS_any A n c l w hn hm hA).mono ?_
  rintro e w' ⟨rfl, h1, h2⟩
  exact ⟨_, rfl, h1, h2⟩
theorem toEg (t u v x : Int) (w : World) : Calls Try.prog 8 #[.agg #[.int .i64 t, .int .i64 u, .int .i64 v, .int .i64 x]] w fun e w' => e = .returned (.agg #[.int .i64 t, .int .i64 u, .int .i64 v, .int .i64 x]) ∧ Below w.heap.size w w' := toEntry_any ⟨t, u, v, x⟩ w
/-- a log, put by either -/
def RetP (l : List Entry) (e : Entry) (w : World) (en : Ending) (w' : World) : Prop :=
  ∃ B d, en = .returned (.tuple #[.slice B (putV l e).1.length d, .bool (putV l e).2]) ∧ Own w' w.heap.size 30 4 B (putV l e).1.length (flatEntry (putV l e).1) ∧ Below w.heap.size w w'
theorem RetLP.p {l : List Entry} {e : Entry} {w w' : World} {en : Ending} (h : RetLP l e w en w') : RetP l e w en w' := by
  obtain ⟨B, d, h1, h2, h3⟩ := h
  exact ⟨B, d, h1, row_own h2, h3⟩
theorem specP (g n : Nat) (l : List Entry) (t u v x : Int) (w : World) (hn : l.length = n) (hm : n ≤ 1048576) (hA : Rd w (some ⟨g, 0, none⟩) (flatEntry l)) :
    Calls Try.prog 6 #[.slice (some ⟨g, 0, none⟩) n n, .agg #[.int .i64 t, .int .i64 u, .int .i64 v, .int .i64 x]] w (RetP l ⟨t, u, v, x⟩ w) := (specLP _ n n l t u v x w hn (by omega) (Nat.le_refl _) (.inr ⟨g, rfl⟩) hA).mono fun _ _ h => RetLP.p h
theorem implP (g n : Nat) (l : List Entry) (t u v x : Int) (w : World) (hn : l.length = n) (hm : n ≤ 1048576) (hA : Rd w (some ⟨g, 0, none⟩) (flatEntry l)) :
    Calls Try.prog 9 #[.slice (some ⟨g, 0, none⟩) n n, .agg #[.int .i64 t, .int .i64 u, .int .i64 v, .int .i64 x]] w (RetP l ⟨t, u, v, x⟩ w) := (implLP _ n n l t u v x w hn hm (Nat.le_refl _) (.inr ⟨g, rfl⟩) hA).mono fun _ _ h => RetLP.p h
theorem boxcells {W0 W : World} {b : Nat} {t u v x : Int} {T : TypeId} (BE : Hid (W0.heap[b]? = some (.cells #[.int .i64 t, .int .i64 u, .int .i64 v, .int .i64 x] T (0, 0)))) (hlt : b < W0.heap.size) (hb : Below W0.heap.size W0 W) :
    W.cell? ⟨b, 0, none⟩ = some (.int .i64 t) ∧ W.cell? ⟨b, 1, none⟩ = some (.int .i64 u) ∧ W.cell? ⟨b, 2, none⟩ = some (.int .i64 v) ∧ W.cell? ⟨b, 3, none⟩ = some (.int .i64 x) := by
  have h : Hid (W.heap[b]? = some (.cells #[.int .i64 t, .int .i64 u, .int .i64 v, .int .i64 x] T (0, 0))) := (hb.block b hlt).trans BE.out
  exact ⟨boxcellL h 0, boxcellL h 1, boxcellL h 2, boxcellL h 3⟩
theorem put_le (l : List Entry) (e : Entry) (n : Nat) (hn : l.length = n) (hm : n ≤ 1048576) : (putV l e).1.length ≤ 1048576 := by
  cases hv : logB l with
  | false => rw [put_no hv]; simp
  | true =>
    have h16 := log_len hv
    unfold putV
    rw [hv]
    simp only [if_true]
    split
    · show l.length ≤ _; omega
    · split
      · show (insE l e).length ≤ _; rw [insE_length]; omega
      · show l.length ≤ _; omega

set_option maxRecDepth 100000 in
set_option maxHeartbeats 4000000 in
theorem walk (w : World) (A0 : Option Addr) (n0 c0 : Nat) (x0 : List Entry) (hn0 : x0.length = n0) (hm0 : n0 ≤ maxLen) (hA0 : Rd w A0 (flatEntry x0)) (a1 : Entry) :
    Calls Try.prog 3 #[.slice A0 n0 c0, a1.val] w fun e w' => e = .returned (.bool true) ∧ Below w.heap.size w w' := by
  unfold maxLen at hm0
  obtain ⟨t, u, v, x⟩ := a1
  unfold Entry.val
  have hb0 := allocB (Below.refl w.heap.size w) (.cells #[.int .i64 t, .int .i64 u, .int .i64 v, .int .i64 x] 24)
  have HA0 := Lib.hid hA0; clear hA0
  have HN0 := Lib.hid hn0; clear hn0
  by_cases hs0 : n0 ≤ 1048576
  case neg =>
    go_enter Try.func3, Try.ntmps3
    go_wp2_with fail
    refine (szEntryS_no A0 n0 c0 _ _ (by omega) (by omega) (by omega)).mono ?_
    rintro e w' ⟨rfl, rfl⟩
    go_wp2_with fail
    go_ret
    exact ⟨rfl, hb0⟩
  have BE := newboxL w (.cells #[.int .i64 t, .int .i64 u, .int .i64 v, .int .i64 x] 24)
  go_enter Try.func3, Try.ntmps3
  go_wp2_with fail
  refine (szEntryS_ok A0 n0 c0 _ _ (by omega) (by omega)).mono ?_
  rintro e w' ⟨rfl, rfl⟩
  go_wp2_with fail
  have HA1 := Lib.hid (HA0.out.below hb0); clear HA0
  generalize w.alloc (.cells #[.int .i64 t, .int .i64 u, .int .i64 v, .int .i64 x] 24) = W0 at *

  have ht0 : n0 ≤ 1048576 := hs0
  have HB0 := Lib.hid hb0; clear hb0
  have hW0 : w.heap.size < W0.heap.size := blk_in BE.out
  generalize w.heap.size = b1 at BE hW0 ⊢
  have hb : Below W0.heap.size W0 W0 := Below.refl _ _
  have hbd := drewB1 W0.heap.size W0
  have hbD : Below W0.heap.size W0 W0.drew := seqB hb hbd
  obtain ⟨e0, e1, e2, e3⟩ := boxcells BE hW0 hbD
  have HBD := Lib.hid hbd; have HBA := Lib.hid hbD; clear hbd hbD
  have HT1 := Lib.hid (toSg A0 n0 c0 x0 W0.drew HN0.out ht0 (HA1.out.below HBA.out))
  have HE1 := Lib.hid (toEg t u v x W0.drew)
  go_region_law (first | (go_simp; go_at_call 6; refine Calls.mono (by with_reducible exact HSP.out) ?_; rintro e w3 ⟨BW, dW, rfl, hoW, hb4⟩; have hbn := HBX.out.trans (hb4.mono HBX.out.size); clear HSP HBX hb4) | (go_simp; go_at_call 8; refine Calls.mono (by with_reducible exact HE2.out) ?_; rintro e w2 ⟨rfl, hb3⟩; have ho2 := HO1.out.below hb3; have HSP := Lib.hid (specP gW n0 x0 t u v x w2 HN0.out ht0 ho2.rd); have HBX : Hid (Below W0.heap.size W0 w2) := HB2.out.trans (hb3.mono HB2.out.size); clear HE2 HO1 hb3 ho2 HB2) | (go_simp; go_at_call 7; refine Calls.mono (by with_reducible exact HT2.out) ?_; rintro e w2 ⟨gW, rfl, ho2, hb3⟩; have HSP := Lib.hid (specP gW n0 x0 t u v x w2 HN0.out ht0 ho2.rd); have HBX : Hid (Below W0.heap.size W0 w2) := HB2.out.trans (hb3.mono HB2.out.size); clear HT2 hb3 ho2 HB2) | (go_simp; go_at_call 7; refine Calls.mono (by with_reducible exact HT1.out) ?_; rintro e w1 ⟨gW, rfl, ho1, hb2⟩; have HB2 : Hid (Below W0.heap.size W0 w1) := HBD.out.trans hb2; obtain ⟨q0, q1, q2, q3⟩ := boxcells BE hW0 (seqB hb HB2.out); have HE2 := Lib.hid (toEg t u v x w1); have HO1 := Lib.hid ho1; clear ho1 hb2 HT1 HE1) | (go_simp; go_at_call 8; refine Calls.mono (by with_reducible exact HE1.out) ?_; rintro e w1 ⟨rfl, hb2⟩; have HB2 : Hid (Below W0.heap.size W0 w1) := HBD.out.trans hb2; have HT2 := Lib.hid (toSg A0 n0 c0 x0 w1 HN0.out ht0 (HA1.out.below (seqB hb HB2.out))); clear hb2 HT1 HE1))
  all_goals
    clear e0 e1 e2 e3 HBD HBA
    try clear q0 q1 q2 q3
    try clear HT1
    try clear HE1
    replace hb := seqB hb hbn
    clear hbn
    have hp : Below w3.heap.size w3 w3 := Below.refl _ _
    have HW := Lib.hid hoW.rd; clear hoW
    have hgw := hb.size; have hgp := hp.size
    go_wp2_with fail
    refine (toSg A0 n0 c0 x0 _ HN0.out ht0 (HA1.out.below hb)).mono ?_
    rintro e w4 ⟨gX, rfl, hoX, hbn⟩
    replace hb := seqB hb hbn
    replace hp := hp.trans (hbn.mono hp.size)
    clear hbn
    obtain ⟨e0, e1, e2, e3⟩ := boxcells BE hW0 hb
    go_wp2_with fail
    refine (toEg t u v x _).mono ?_
    rintro e w5 ⟨rfl, hbn⟩
    replace hb := seqB hb hbn
    replace hp := hp.trans (hbn.mono hp.size)
    replace hoX := hoX.below hbn
    clear hbn
    clear e0 e1 e2 e3
    go_wp2_with fail
    have hlt := hoX.lt; have hgwH := hb.size; have hgpH := hp.size
    refine (implP gX n0 x0 t u v x _ HN0.out ht0 hoX.rd).mono ?_
    rintro e w6 ⟨BG, dG, rfl, hoG, hbn⟩
    replace hb := seqB hb hbn
    replace hp := hp.trans (hbn.mono hp.size)
    replace hoX := hoX.below hbn
    clear hbn
    have hVl : (putV x0 ⟨t, u, v, x⟩).1.length ≤ 1048576 := put_le x0 _ n0 HN0.out ht0
    generalize hV : (putV x0 ⟨t, u, v, x⟩).1 = V at *
    have HV := Lib.hid hV; clear hV
    generalize hO : (putV x0 ⟨t, u, v, x⟩).2 = ok at *
    have HO := Lib.hid hO; clear hO
    have hok : (ok != ok) = false := by simp
    go_wp2_with fail
    refine (eqEntryS_same _ _ V.length _ _ V _ rfl hVl hoG.rd (HW.out.below hp)).mono ?_
    rintro e w7 ⟨rfl, hbn⟩
    replace hb := seqB hb hbn
    replace hp := hp.trans (hbn.mono hp.size)
    replace hoX := hoX.below hbn
    replace hoG := hoG.below hbn
    clear hbn
    go_wp2_with fail
    refine (toSg A0 n0 c0 x0 _ HN0.out ht0 (HA1.out.below hb)).mono ?_
    rintro e w8 ⟨gY, rfl, hoY, hbn⟩
    replace hb := seqB hb hbn
    replace hp := hp.trans (hbn.mono hp.size)
    replace hoX := hoX.below hbn
    replace hoG := hoG.below hbn
    clear hbn
    go_wp2_with fail
    refine (eqEntryS_same _ _ n0 n0 n0 x0 _ HN0.out ht0 hoX.rd hoY.rd).mono ?_
    rintro e w9 ⟨rfl, hbn⟩
    replace hb := seqB hb hbn
    replace hp := hp.trans (hbn.mono hp.size)
    replace hoX := hoX.below hbn
    replace hoG := hoG.below hbn
    replace hoY := hoY.below hbn
    clear hbn
    clear hoY
    go_wp2_with fail
    refine (markEntryS_own _ _ n0 n0 _ _ _ ht0 (by omega) (by omega) hoX).mono ?_
    rintro e w10 ⟨rfl, _, hT⟩
    replace hb := hb.trans (hT.below (hoX.ge hgw))
    replace hp := hp.trans (hT.below (hoX.ge hgp))
    replace hoG := hT.own hoG hlt
    clear hT hoX
    go_wp2_with fail
    refine (eqEntryS_same _ _ V.length _ _ V _ rfl hVl hoG.rd (HW.out.below hp)).mono ?_
    rintro e w11 ⟨rfl, hbn⟩
    replace hb := seqB hb hbn
    replace hp := hp.trans (hbn.mono hp.size)
    replace hoG := hoG.below hbn
    clear hbn
    go_wp2_with fail
    refine (markEntryS_own _ _ V.length _ _ _ _ hVl (by omega) (by omega) hoG).mono ?_
    rintro e w12 ⟨rfl, hoM, hT⟩
    replace hb := hb.trans (hT.below (hoG.ge hgwH))
    replace hp := hp.trans (hT.below (hoG.ge hgpH))
    clear hT hoG
    go_wp2_with fail
    refine (heldEntryS_yes _ V.length _ _ _ hVl (by omega) (by omega) hoM.rd).mono ?_
    rintro e w' ⟨rfl, rfl⟩
    go_wp2_with fail
    have hbd := drewB1 w12.heap.size w12
    have hbD : Below W0.heap.size W0 w12.drew := seqB hb hbd
    obtain ⟨e0, e1, e2, e3⟩ := boxcells BE hW0 hbD
    have HBD := Lib.hid hbd; have HBA := Lib.hid hbD; clear hbd hbD
    have HT1 := Lib.hid (toSg A0 n0 c0 x0 w12.drew HN0.out ht0 (HA1.out.below HBA.out))
    have HE1 := Lib.hid (toEg t u v x w12.drew)
    go_region_law (first | (go_simp; go_at_call 9; refine Calls.mono (by with_reducible exact HSP.out) ?_; rintro e w15 ⟨BH, dH, rfl, hoH, hb4⟩; have hbn := HBX.out.trans (hb4.mono HBX.out.size); clear HSP HBX hb4) | (go_simp; go_at_call 8; refine Calls.mono (by with_reducible exact HE2.out) ?_; rintro e w14 ⟨rfl, hb3⟩; have ho2 := HO1.out.below hb3; have HSP := Lib.hid (implP gH n0 x0 t u v x w14 HN0.out ht0 ho2.rd); have HBX : Hid (Below w12.heap.size w12 w14) := HB2.out.trans (hb3.mono HB2.out.size); clear HE2 HO1 hb3 ho2 HB2) | (go_simp; go_at_call 7; refine Calls.mono (by with_reducible exact HT2.out) ?_; rintro e w14 ⟨gH, rfl, ho2, hb3⟩; have HSP := Lib.hid (implP gH n0 x0 t u v x w14 HN0.out ht0 ho2.rd); have HBX : Hid (Below w12.heap.size w12 w14) := HB2.out.trans (hb3.mono HB2.out.size); clear HT2 hb3 ho2 HB2) | (go_simp; go_at_call 7; refine Calls.mono (by with_reducible exact HT1.out) ?_; rintro e w13 ⟨gH, rfl, ho1, hb2⟩; have HB2 : Hid (Below w12.heap.size w12 w13) := HBD.out.trans hb2; obtain ⟨q0, q1, q2, q3⟩ := boxcells BE hW0 (seqB hb HB2.out); have HE2 := Lib.hid (toEg t u v x w13); have HO1 := Lib.hid ho1; clear ho1 hb2 HT1 HE1) | (go_simp; go_at_call 8; refine Calls.mono (by with_reducible exact HE1.out) ?_; rintro e w13 ⟨rfl, hb2⟩; have HB2 : Hid (Below w12.heap.size w12 w13) := HBD.out.trans hb2; have HT2 := Lib.hid (toSg A0 n0 c0 x0 w13 HN0.out ht0 (HA1.out.below (seqB hb HB2.out))); clear hb2 HT1 HE1))
    all_goals
      clear e0 e1 e2 e3 HBD HBA
      try clear q0 q1 q2 q3
      try clear HT1
      try clear HE1
      replace hb := seqB hb hbn
      replace hp := hp.trans (hbn.mono hp.size)
      replace hoM := hoM.below hbn
      clear hbn
      rw [HV.out] at hoH ⊢
      rw [HO.out]
      go_wp2_with fail
      refine (eqEntryS_same _ _ V.length _ _ V _ rfl hVl hoH.rd (HW.out.below hp)).mono ?_
      rintro e w16 ⟨rfl, hbn⟩
      replace hb := seqB hb hbn
      replace hp := hp.trans (hbn.mono hp.size)
      replace hoM := hoM.below hbn
      replace hoH := hoH.below hbn
      clear hbn
      go_wp2_with fail
      refine (heldEntryS_yes _ V.length _ _ _ hVl (by omega) (by omega) hoM.rd).mono ?_
      rintro e w' ⟨rfl, rfl⟩
      go_wp2_with fail
      go_ret
      exact ⟨rfl, HB0.out.trans (hb.mono HB0.out.size)⟩
end Go.Proofs.Ytdlphgknplomkaa.exPt