/- Contracts of PollAll, of the program and of the reference, and of markPoll. No statement is proved here. -/
import Derived.Test.YthekihggedgofaaDoorPolD
namespace Go.Proofs.YthekihggedgofaaDoor
open Go.RowKit
theorem blk_inP {w : World} {g : Nat} {o : Obj} (h : w.heap[g]? = some o) : g < w.heap.size := by
  rcases Nat.lt_or_ge g w.heap.size with hlt | hge
  · exact hlt
  · rw [Array.getElem?_eq_none hge] at h; cases h
theorem rowboxP {w w' : World} {base n g : Nat} {E : TypeId} {size : Nat} {v : Value} {cs : List Value} {o : Obj} (hown : w.ownsRow base E size v n cs) (hg : w.grownBy w' v.ownBlock) (hb : g < base) (h : Hid (w.heap[g]? = some o)) : Hid (w'.heap[g]? = some o) :=
  (hg.block g (blk_inP h.out) (fun e => by have := (hown.lt g e.symm).1; omega)).trans h.out
theorem grown_geP {w w1 w0 : World} {base : Nat} {v : Value} {E : TypeId} {size n : Nat} {cs : List Value} (hb : Below w0.heap.size w0 w) (hbase : w0.heap.size ≤ base) (hown : w.ownsRow base E size v n cs) (hg : w.grownBy w1 v.ownBlock) : Below w0.heap.size w0 w1 :=
  hb.grown hg (by have := hb.size; omega) (fun k hk => Nat.le_trans hbase (hown.lt k hk).1)
theorem turnedP {A A' : Option Addr} {n n' base : Nat} {w w' : World} {E : TypeId} {size : Nat} {cs : List Value} (h : Turned A n w w') (ho : Own w base E size A' n' cs) (hg : ∀ a b, 0 < n → 0 < n' → A = some a → A' = some b → a.block ≠ b.block) : Own w' base E size A' n' cs := by
  refine ⟨ho.1, fun hn => ?_⟩
  obtain ⟨g', cur, e, hge, hh, ht⟩ := ho.2 hn
  exact ⟨g', cur, e, hge, (h.block g' (fun a h0 ha => (hg a ⟨g', 0, none⟩ h0 hn ha e).symm)).trans hh, ht⟩
theorem pollB_L {M S L K T E : Int} {G Q : List Int} (h : pollB M S L K T E G Q = true) : -1 ≤ L := by
  simp only [pollB, Bool.and_eq_true, inB_iff] at h
  exact h.2.2.2.2.1.1
theorem own_none {w : World} {base : Nat} {E : TypeId} {size n : Nat} {A : Option Addr} {cs : List Value} (h : Own w base E size A n cs) : A = none → n = 0 ∧ n = 0 := by
  intro e
  rcases Nat.eq_zero_or_pos n with h0 | h0
  · exact ⟨h0, h0⟩
  · obtain ⟨g, e', _⟩ := h.form h0
    rw [e] at e'; cases e'
theorem pollL_len {M S L K T E : Int} {G Q : List Int} : (pollL M S L K T E G Q).length ≤ 12 := by
  unfold pollL
  split
  · next h =>
    simp only [pollB, Bool.and_eq_true, decide_eq_true_eq] at h
    exact h.2.2.2.2.2.2.2.2.2
  · simp
set_option maxRecDepth 100000 in
set_option maxHeartbeats 2000000 in
theorem implPA (M : Int) (A1 : Option Addr) (n1 c1 : Nat) (G : List Int) (S : Int) (A3 : Option Addr) (n3 c3 : Nat) (Q : List Int) (L K T E : Int) (w : World) (hn1 : G.length = n1) (hm1 : n1 ≤ 1048576) (hA1 : Rd w A1 (ints G)) (hn3 : Q.length = n3) (hm3 : n3 ≤ 1048576) (hA3 : Rd w A3 (ints Q)) (hz1 : A1 = none → n1 = 0 ∧ c1 = 0) (hz3 : A3 = none → n3 = 0 ∧ c3 = 0) :
    Calls Tryd.prog 11 #[.agg #[.int .i64 M, .slice A1 n1 c1, .int .i64 S, .slice A3 n3 c3, .int .i64 L, .int .i64 K, .int .i64 T, .int .i64 E]] w (RetRow 3 1 (ints (pollL M S L K T E G Q)) (pollL M S L K T E G Q).length w) := by
  have HA1 := Lib.hid (hA1.below (allocB (Below.refl _ _) (.cells #[.int .i64 M, .slice A1 n1 c1, .int .i64 S, .slice A3 n3 c3, .int .i64 L, .int .i64 K, .int .i64 T, .int .i64 E] 25))); clear hA1
  have HA3 := Lib.hid (hA3.below (allocB (Below.refl _ _) (.cells #[.int .i64 M, .slice A1 n1 c1, .int .i64 S, .slice A3 n3 c3, .int .i64 L, .int .i64 K, .int .i64 T, .int .i64 E] 25))); clear hA3
  have HN1 := Lib.hid hn1; have HN3 := Lib.hid hn3; clear hn1 hn3
  have HZ1 := Lib.hid hz1; have HZ3 := Lib.hid hz3; clear hz1 hz3
  have hb : Below w.heap.size w (w.alloc (.cells #[.int .i64 M, .slice A1 n1 c1, .int .i64 S, .slice A3 n3 c3, .int .i64 L, .int .i64 K, .int .i64 T, .int .i64 E] 25)) := allocB (Below.refl _ _) _
  have hbox : Hid ((w.alloc (.cells #[.int .i64 M, .slice A1 n1 c1, .int .i64 S, .slice A3 n3 c3, .int .i64 L, .int .i64 K, .int .i64 T, .int .i64 E] 25)).heap[w.heap.size]? = some (.cells #[.int .i64 M, .slice A1 n1 c1, .int .i64 S, .slice A3 n3 c3, .int .i64 L, .int .i64 K, .int .i64 T, .int .i64 E] 25 (0, 0))) := heap_alloc_new w _
  go_enter Tryd.func11, Tryd.ntmps11
  go_wp2_with fail
  refine (implPV M A1 n1 c1 G S A3 n3 c3 Q L K T E _ HN1.out hm1 HA1.out HN3.out hm3 HA3.out HZ1.out HZ3.out).mono ?_
  rintro e w1 ⟨rfl, hbn⟩
  have hr1 := HA1.out.below hbn
  have hr3 := HA3.out.below hbn
  replace hbox := be_box hbox hbn
  replace hb := seqB hb hbn
  clear hbn
  cases hv : pollB M S L K T E G Q with
  | false =>
    go_wp2_with fail
    go_ret
    rw [pollL, hv]
    exact ⟨none, 0, rfl, row_zero, hb⟩
  | true =>
    have g0 : w1.cell? ⟨w.heap.size, 0, none⟩ = some (.int .i64 M) := box_cell hbox 0
    have g1 : w1.cell? ⟨w.heap.size, 1, none⟩ = some (.slice A1 n1 c1) := box_cell hbox 1
    have g2 : w1.cell? ⟨w.heap.size, 2, none⟩ = some (.int .i64 S) := box_cell hbox 2
    have g3 : w1.cell? ⟨w.heap.size, 3, none⟩ = some (.slice A3 n3 c3) := box_cell hbox 3
    have g4 : w1.cell? ⟨w.heap.size, 4, none⟩ = some (.int .i64 L) := box_cell hbox 4
    have g5 : w1.cell? ⟨w.heap.size, 5, none⟩ = some (.int .i64 K) := box_cell hbox 5
    have g6 : w1.cell? ⟨w.heap.size, 6, none⟩ = some (.int .i64 T) := box_cell hbox 6
    have g7 : w1.cell? ⟨w.heap.size, 7, none⟩ = some (.int .i64 E) := box_cell hbox 7
    go_wp2_with fail
    refine (eventsC M A1 n1 c1 G S A3 n3 c3 Q L K T E _ HN1.out hm1 hr1 HN3.out hm3 hr3 HZ1.out HZ3.out).mono ?_
    rintro e w2 ⟨B, d, rfl, hr, hb2⟩
    go_wp2_with fail
    go_ret
    rw [pollL, hv, if_pos rfl]
    exact ⟨B, d, rfl, row_mono hr hb.size, seqB hb hb2⟩
set_option maxRecDepth 100000 in
set_option maxHeartbeats 4000000 in
theorem specPA (M : Int) (A1 : Option Addr) (n1 c1 : Nat) (G : List Int) (S : Int) (A3 : Option Addr) (n3 c3 : Nat) (Q : List Int) (L K T E : Int) (w : World) (hn1 : G.length = n1) (hm1 : n1 ≤ 1048576) (hA1 : Rd w A1 (ints G)) (hn3 : Q.length = n3) (hm3 : n3 ≤ 1048576) (hA3 : Rd w A3 (ints Q)) (hz1 : A1 = none → n1 = 0 ∧ c1 = 0) (hz3 : A3 = none → n3 = 0 ∧ c3 = 0) :
    Calls Tryd.prog 13 #[.agg #[.int .i64 M, .slice A1 n1 c1, .int .i64 S, .slice A3 n3 c3, .int .i64 L, .int .i64 K, .int .i64 T, .int .i64 E]] w (RetRow 3 1 (ints (pollL M S L K T E G Q)) (pollL M S L K T E G Q).length w) := by
  have HQ := Lib.hid hA3
  have HA1 := Lib.hid (hA1.below (allocB (Below.refl _ _) (.cells #[.int .i64 M, .slice A1 n1 c1, .int .i64 S, .slice A3 n3 c3, .int .i64 L, .int .i64 K, .int .i64 T, .int .i64 E] 25))); clear hA1
  have HA3 := Lib.hid (hA3.below (allocB (Below.refl _ _) (.cells #[.int .i64 M, .slice A1 n1 c1, .int .i64 S, .slice A3 n3 c3, .int .i64 L, .int .i64 K, .int .i64 T, .int .i64 E] 25))); clear hA3
  have HN1 := Lib.hid hn1; have HN3 := Lib.hid hn3; clear hn1 hn3
  have HZ1 := Lib.hid hz1; have HZ3 := Lib.hid hz3; clear hz1 hz3
  have hb : Below w.heap.size w (w.alloc (.cells #[.int .i64 M, .slice A1 n1 c1, .int .i64 S, .slice A3 n3 c3, .int .i64 L, .int .i64 K, .int .i64 T, .int .i64 E] 25)) := allocB (Below.refl _ _) _
  have hbox : Hid ((w.alloc (.cells #[.int .i64 M, .slice A1 n1 c1, .int .i64 S, .slice A3 n3 c3, .int .i64 L, .int .i64 K, .int .i64 T, .int .i64 E] 25)).heap[w.heap.size]? = some (.cells #[.int .i64 M, .slice A1 n1 c1, .int .i64 S, .slice A3 n3 c3, .int .i64 L, .int .i64 K, .int .i64 T, .int .i64 E] 25 (0, 0))) := heap_alloc_new w _
  obtain ⟨i0, hi0, hq0, hq1, hq2⟩ := info_parts info_int
  have HI := Lib.hid (And.intro hi0 (And.intro hq0 (And.intro hq1 hq2))); clear hi0 hq0 hq1 hq2
  go_enter Tryd.func13, Tryd.ntmps13
  go_wp2_with fail
  refine (specPV M A1 n1 c1 G S A3 n3 c3 Q L K T E _ HN1.out hm1 HA1.out HN3.out hm3 HA3.out).mono ?_
  rintro e w1 ⟨rfl, hbn⟩
  have hr1 := HA1.out.below hbn
  have hr3 := HA3.out.below hbn
  replace hbox := be_box hbox hbn
  replace hb := seqB hb hbn
  clear hbn
  have hlit : (w1.alloc (.cells #[] 3)).ownsRow (w.heap.size + 1) 3 1 (.slice (some ⟨w1.heap.size, 0, none⟩) 0 0) 0 [] := World.ownsRow_lit w1 #[] 0 (by have := blk_inP hbox.out; omega) (Nat.zero_le _) rfl
  have hbl := allocB hb (.cells #[] 3)
  cases hv : pollB M S L K T E G Q with
  | false =>
    go_wp2_with fail
    go_ret
    rw [pollL, hv]
    exact ⟨_, _, rfl, row_mono hlit (Nat.le_succ _), hbl⟩
  | true =>
  have hL1 := pollB_L hv
  have HPL : Hid (pollL M S L K T E G Q = evs M S L G Q) := by rw [Hid, pollL, hv, if_pos rfl]
  clear hv
  replace hbox := be_box hbox (allocB (Below.refl _ _) (.cells #[] 3))
  have hrl1 := hr1.below (allocB (Below.refl _ _) (.cells #[] 3))
  clear hr1 hr3
  have g0 : (w1.alloc (.cells #[] 3)).cell? ⟨w.heap.size, 0, none⟩ = some (.int .i64 M) := box_cell hbox 0
  have g1 : (w1.alloc (.cells #[] 3)).cell? ⟨w.heap.size, 1, none⟩ = some (.slice A1 n1 c1) := box_cell hbox 1
  have g2 : (w1.alloc (.cells #[] 3)).cell? ⟨w.heap.size, 2, none⟩ = some (.int .i64 S) := box_cell hbox 2
  have g3 : (w1.alloc (.cells #[] 3)).cell? ⟨w.heap.size, 3, none⟩ = some (.slice A3 n3 c3) := box_cell hbox 3
  have g4 : (w1.alloc (.cells #[] 3)).cell? ⟨w.heap.size, 4, none⟩ = some (.int .i64 L) := box_cell hbox 4
  have g5 : (w1.alloc (.cells #[] 3)).cell? ⟨w.heap.size, 5, none⟩ = some (.int .i64 K) := box_cell hbox 5
  have g6 : (w1.alloc (.cells #[] 3)).cell? ⟨w.heap.size, 6, none⟩ = some (.int .i64 T) := box_cell hbox 6
  have g7 : (w1.alloc (.cells #[] 3)).cell? ⟨w.heap.size, 7, none⟩ = some (.int .i64 E) := box_cell hbox 7
  have hsz : w.heap.size + 1 ≤ (w1.alloc (.cells #[] 3)).heap.size := by have := blk_inP hbox.out; omega
  by_cases hL : 0 ≤ L
  · have hL' : decide ((0 : Int) ≤ L) = true := by simp [hL]
    by_cases hMS : M = S
    · subst hMS
      go_wp2_with (first | (at_builtin; refine wpList_appN w8 rfl _ _ _ rfl (w.heap.size + 1) 3 i0 _ 1 8 Tryd.underlying23 HI.out rfl (by omega) (.slice B8 (n1 + 1) d8) (n1 + 1) (ints (G ++ [L])) rfl HR8.out A3 n3 c3 (ints Q) rfl (by rw [ints_length, HN3.out]; omega) hq8 HZ3.out (ints_one _) (by omega) (by omega) hs8 ?_; intro v7 w7 hown7 hg7) | (at_builtin; refine wpList_app1 w9 rfl _ _ _ rfl (w.heap.size + 1) 3 i0 _ 1 8 Tryd.underlying23 HI.out rfl (by omega) (.slice B9 n1 d9) n1 (ints G) rfl HR9.out #[.int .i64 L] rfl rfl (by simp [Value.oneCell']) (by omega) (by omega) hs9 ?_; intro v8 w8 hown8 hg8; have hb8 := grown_geP (allocB hb9 _) (Nat.le_succ _) (HR9.out.alloc _) hg8; have BX8 := rowboxP (HR9.out.alloc _) hg8 (Nat.lt_succ_self _) (be_box BX9 (allocB (Below.refl _ _) _)); obtain ⟨B8, d8, rfl, hr8⟩ := row_is (n' := n1 + 1) (cs' := ints (G ++ [L])) hown8 rfl (by rw [← ints_app]; rfl); have HR8 := Lib.hid hr8; have hs8 := Nat.le_trans (Nat.le_trans hs9 (allocB (Below.refl _ _) _).size) hg8.size; have hq8 := HQ.out.below hb8; have l0 : w8.cell? ⟨w.heap.size, 0, none⟩ = some (.int .i64 M) := box_cell BX8 0; have l2 : w8.cell? ⟨w.heap.size, 2, none⟩ = some (.int .i64 M) := box_cell BX8 2; have l3 : w8.cell? ⟨w.heap.size, 3, none⟩ = some (.slice A3 n3 c3) := box_cell BX8 3; have l4 : w8.cell? ⟨w.heap.size, 4, none⟩ = some (.int .i64 L) := box_cell BX8 4; clear hown8 hg8 hr8 HR9) | (at_builtin; refine wpList_appN (w1.alloc (.cells #[] 3)) rfl _ _ _ rfl (w.heap.size + 1) 3 i0 _ 1 8 Tryd.underlying23 HI.out rfl (by omega) _ 0 _ rfl hlit A1 n1 c1 (ints G) rfl (by rw [ints_length, HN1.out]; omega) hrl1 HZ1.out (ints_one _) (by omega) (by omega) hsz ?_; intro v9 w9 hown9 hg9; have hb9 := grown_geP hbl (Nat.le_succ _) hlit hg9; have BX9 := rowboxP hlit hg9 (Nat.lt_succ_self _) hbox; obtain ⟨B9, d9, rfl, hr9⟩ := row_is (n' := n1) (cs' := ints G) hown9 (by omega) rfl; have HR9 := Lib.hid hr9; have hs9 := Nat.le_trans hsz hg9.size; have hq3 := HQ.out.below hb9; have k0 : w9.cell? ⟨w.heap.size, 0, none⟩ = some (.int .i64 M) := box_cell BX9 0; have k2 : w9.cell? ⟨w.heap.size, 2, none⟩ = some (.int .i64 M) := box_cell BX9 2; have k3 : w9.cell? ⟨w.heap.size, 3, none⟩ = some (.slice A3 n3 c3) := box_cell BX9 3; have k4 : w9.cell? ⟨w.heap.size, 4, none⟩ = some (.int .i64 L) := box_cell BX9 4; clear hown9 hg9 hr9 hlit hrl1))
      have hb7 := grown_geP hb8 (Nat.le_succ _) HR8.out hg7
      obtain ⟨B7, d7, rfl, hr7⟩ := row_is (n' := (evs M M L G Q).length) (cs' := ints (evs M M L G Q)) hown7 (by rw [evs_len, HN1.out, HN3.out, if_pos ⟨by omega, rfl⟩]; omega) (by rw [ints_app, evs, if_pos ⟨by omega, rfl⟩]; simp)
      go_ret
      rw [HPL.out]
      exact ⟨B7, d7, rfl, row_mono hr7 (Nat.le_succ _), hb7⟩
    · have hMS' : (M == S) = false := by simpa using hMS
      go_wp2_with (first | (at_builtin; refine wpList_appN w9 rfl _ _ _ rfl (w.heap.size + 1) 3 i0 _ 1 8 Tryd.underlying23 HI.out rfl (by omega) (.slice B9 n1 d9) n1 (ints G) rfl HR9.out A3 n3 c3 (ints Q) rfl (by rw [ints_length, HN3.out]; omega) hq3 HZ3.out (ints_one _) (by omega) (by omega) hs9 ?_; intro v7 w7 hown7 hg7) | (at_builtin; refine wpList_appN (w1.alloc (.cells #[] 3)) rfl _ _ _ rfl (w.heap.size + 1) 3 i0 _ 1 8 Tryd.underlying23 HI.out rfl (by omega) _ 0 _ rfl hlit A1 n1 c1 (ints G) rfl (by rw [ints_length, HN1.out]; omega) hrl1 HZ1.out (ints_one _) (by omega) (by omega) hsz ?_; intro v9 w9 hown9 hg9; have hb9 := grown_geP hbl (Nat.le_succ _) hlit hg9; have BX9 := rowboxP hlit hg9 (Nat.lt_succ_self _) hbox; obtain ⟨B9, d9, rfl, hr9⟩ := row_is (n' := n1) (cs' := ints G) hown9 (by omega) rfl; have HR9 := Lib.hid hr9; have hs9 := Nat.le_trans hsz hg9.size; have hq3 := HQ.out.below hb9; have k0 : w9.cell? ⟨w.heap.size, 0, none⟩ = some (.int .i64 M) := box_cell BX9 0; have k2 : w9.cell? ⟨w.heap.size, 2, none⟩ = some (.int .i64 S) := box_cell BX9 2; have k3 : w9.cell? ⟨w.heap.size, 3, none⟩ = some (.slice A3 n3 c3) := box_cell BX9 3; have k4 : w9.cell? ⟨w.heap.size, 4, none⟩ = some (.int .i64 L) := box_cell BX9 4; clear hown9 hg9 hr9 hlit hrl1))
      have hb7 := grown_geP hb9 (Nat.le_succ _) HR9.out hg7
      obtain ⟨B7, d7, rfl, hr7⟩ := row_is (n' := (evs M S L G Q).length) (cs' := ints (evs M S L G Q)) hown7 (by rw [evs_len, HN1.out, HN3.out, if_neg (by intro h; exact hMS h.2)]; omega) (by rw [ints_app, evs, if_neg (by intro h; exact hMS h.2)]; simp)
      go_ret
      rw [HPL.out]
      exact ⟨B7, d7, rfl, row_mono hr7 (Nat.le_succ _), hb7⟩
  · have hL' : decide ((0 : Int) ≤ L) = false := by simp [hL]
    go_wp2_with (first | (at_builtin; refine wpList_appN w9 rfl _ _ _ rfl (w.heap.size + 1) 3 i0 _ 1 8 Tryd.underlying23 HI.out rfl (by omega) (.slice B9 n1 d9) n1 (ints G) rfl HR9.out A3 n3 c3 (ints Q) rfl (by rw [ints_length, HN3.out]; omega) hq3 HZ3.out (ints_one _) (by omega) (by omega) hs9 ?_; intro v7 w7 hown7 hg7) | (at_builtin; refine wpList_appN (w1.alloc (.cells #[] 3)) rfl _ _ _ rfl (w.heap.size + 1) 3 i0 _ 1 8 Tryd.underlying23 HI.out rfl (by omega) _ 0 _ rfl hlit A1 n1 c1 (ints G) rfl (by rw [ints_length, HN1.out]; omega) hrl1 HZ1.out (ints_one _) (by omega) (by omega) hsz ?_; intro v9 w9 hown9 hg9; have hb9 := grown_geP hbl (Nat.le_succ _) hlit hg9; have BX9 := rowboxP hlit hg9 (Nat.lt_succ_self _) hbox; obtain ⟨B9, d9, rfl, hr9⟩ := row_is (n' := n1) (cs' := ints G) hown9 (by omega) rfl; have HR9 := Lib.hid hr9; have hs9 := Nat.le_trans hsz hg9.size; have hq3 := HQ.out.below hb9; have k0 : w9.cell? ⟨w.heap.size, 0, none⟩ = some (.int .i64 M) := box_cell BX9 0; have k2 : w9.cell? ⟨w.heap.size, 2, none⟩ = some (.int .i64 S) := box_cell BX9 2; have k3 : w9.cell? ⟨w.heap.size, 3, none⟩ = some (.slice A3 n3 c3) := box_cell BX9 3; have k4 : w9.cell? ⟨w.heap.size, 4, none⟩ = some (.int .i64 L) := box_cell BX9 4; clear hown9 hg9 hr9 hlit hrl1))
    have hb7 := grown_geP hb9 (Nat.le_succ _) HR9.out hg7
    obtain ⟨B7, d7, rfl, hr7⟩ := row_is (n' := (evs M S L G Q).length) (cs' := ints (evs M S L G Q)) hown7 (by rw [evs_len, HN1.out, HN3.out, if_neg (by intro h; exact h.1 (by omega))]; omega) (by rw [ints_app, evs, if_neg (by intro h; exact h.1 (by omega))]; simp)
    go_ret
    rw [HPL.out]
    exact ⟨B7, d7, rfl, row_mono hr7 (Nat.le_succ _), hb7⟩
end Go.Proofs.YthekihggedgofaaDoor
