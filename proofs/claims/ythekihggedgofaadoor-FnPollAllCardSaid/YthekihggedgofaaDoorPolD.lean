/- Contracts of events, of the program's PollValid and of PollAll. No statement is proved here. -/
import Derived.Test.YthekihggedgofaaDoorPolC
namespace Go.Proofs.YthekihggedgofaaDoor
open Go.RowKit
theorem inB_more {n hi : Int} (h : inB n 0 hi = true) : inB n (-1) hi = true := by
  rw [inB_iff] at h ⊢; omega

set_option maxRecDepth 100000 in
set_option maxHeartbeats 4000000 in
theorem eventsC (M : Int) (A1 : Option Addr) (n1 c1 : Nat) (G : List Int) (S : Int) (A3 : Option Addr) (n3 c3 : Nat) (Q : List Int) (L K T E : Int) (w : World) (hn1 : G.length = n1) (hm1 : n1 ≤ 1048576) (hA1 : Rd w A1 (ints G)) (hn3 : Q.length = n3) (hm3 : n3 ≤ 1048576) (hA3 : Rd w A3 (ints Q)) (hz1 : A1 = none → n1 = 0 ∧ c1 = 0) (hz3 : A3 = none → n3 = 0 ∧ c3 = 0) :
    Calls Tryd.prog 19 #[.agg #[.int .i64 M, .slice A1 n1 c1, .int .i64 S, .slice A3 n3 c3, .int .i64 L, .int .i64 K, .int .i64 T, .int .i64 E]] w (RetRow 3 1 (ints (evs M S L G Q)) (evs M S L G Q).length w) := by
  have HA1 := Lib.hid (hA1.below (allocB (Below.refl _ _) (.cells #[.int .i64 M, .slice A1 n1 c1, .int .i64 S, .slice A3 n3 c3, .int .i64 L, .int .i64 K, .int .i64 T, .int .i64 E] 25))); clear hA1
  have HA3 := Lib.hid (hA3.below (allocB (Below.refl _ _) (.cells #[.int .i64 M, .slice A1 n1 c1, .int .i64 S, .slice A3 n3 c3, .int .i64 L, .int .i64 K, .int .i64 T, .int .i64 E] 25))); clear hA3
  have HN1 := Lib.hid hn1; have HN3 := Lib.hid hn3; clear hn1 hn3
  have HZ1 := Lib.hid hz1; have HZ3 := Lib.hid hz3; clear hz1 hz3
  have hb : Below w.heap.size w (w.alloc (.cells #[.int .i64 M, .slice A1 n1 c1, .int .i64 S, .slice A3 n3 c3, .int .i64 L, .int .i64 K, .int .i64 T, .int .i64 E] 25)) := allocB (Below.refl _ _) _
  have hbox : Hid ((w.alloc (.cells #[.int .i64 M, .slice A1 n1 c1, .int .i64 S, .slice A3 n3 c3, .int .i64 L, .int .i64 K, .int .i64 T, .int .i64 E] 25)).heap[w.heap.size]? = some (.cells #[.int .i64 M, .slice A1 n1 c1, .int .i64 S, .slice A3 n3 c3, .int .i64 L, .int .i64 K, .int .i64 T, .int .i64 E] 25 (0, 0))) := heap_alloc_new w _
  obtain ⟨i0, hi0, hq0, hq1, hq2⟩ := info_parts info_int
  have HI := Lib.hid (And.intro hi0 (And.intro hq0 (And.intro hq1 hq2))); clear hi0 hq0 hq1 hq2
  by_cases hL : L = -1
  · subst hL
    have HFS : Hid (flatS [⟨A1, c1, G⟩, ⟨none, 0, []⟩, ⟨A3, c3, Q⟩] = [.slice A1 n1 c1, .slice none 0 0, .slice A3 n3 c3]) := by rw [Hid]; simp [flatS, SR.cells, HN1.out, HN3.out]
    have HCS : Hid (catS [⟨A1, c1, G⟩, ⟨none, 0, []⟩, ⟨A3, c3, Q⟩] = evs M S (-1) G Q) := by rw [Hid, evs, if_neg (by simp)]; simp [catS]
    have hbl : Below w.heap.size w ((w.alloc (.cells #[.int .i64 M, .slice A1 n1 c1, .int .i64 S, .slice A3 n3 c3, .int .i64 (-1), .int .i64 K, .int .i64 T, .int .i64 E] 25)).alloc (.cells #[.slice A1 n1 c1, .slice none 0 0, .slice A3 n3 c3] 23)) := allocB hb _
    go_enter Tryd.func19, Tryd.ntmps19
    go_wp2_with fail
    refine (concatC _ 3 3 [⟨A1, c1, G⟩, ⟨none, 0, []⟩, ⟨A3, c3, Q⟩] _ rfl (by omega) (by rw [HCS.out, evs_len, HN1.out, HN3.out]; split <;> omega) (by rw [HFS.out]; have := rd_new (w.alloc (.cells #[.int .i64 M, .slice A1 n1 c1, .int .i64 S, .slice A3 n3 c3, .int .i64 (-1), .int .i64 K, .int .i64 T, .int .i64 E] 25)) #[.slice A1 n1 c1, .slice none 0 0, .slice A3 n3 c3] 23; simpa using this) (fun k hk => ?_) (fun k hk => ?_)).mono ?_
    · match k, hk with
      | 0, _ => exact HA1.out.below (allocB (Below.refl _ _) _)
      | 1, _ => exact Rd.nil
      | 2, _ => exact HA3.out.below (allocB (Below.refl _ _) _)
    · match k, hk with
      | 0, _ => exact fun e => by have := HZ1.out e; exact ⟨by simpa [HN1.out] using this.1, this.2⟩
      | 1, _ => exact fun _ => ⟨rfl, rfl⟩
      | 2, _ => exact fun e => by have := HZ3.out e; exact ⟨by simpa [HN3.out] using this.1, this.2⟩
    rintro e w5 ⟨B5, d5, rfl, hr5, hb5⟩
    rw [HCS.out] at hr5 ⊢
    go_wp2_with fail
    go_ret
    exact ⟨B5, d5, rfl, row_mono hr5 hbl.size, seqB hbl hb5⟩
  · have hL' : (L != -1) = true := by simpa using hL
    by_cases hMS : M = S
    rotate_left
    · have hMS' : (M == S) = false := by simpa using hMS
      have HFS : Hid (flatS [⟨A1, c1, G⟩, ⟨none, 0, []⟩, ⟨A3, c3, Q⟩] = [.slice A1 n1 c1, .slice none 0 0, .slice A3 n3 c3]) := by rw [Hid]; simp [flatS, SR.cells, HN1.out, HN3.out]
      have HCS : Hid (catS [⟨A1, c1, G⟩, ⟨none, 0, []⟩, ⟨A3, c3, Q⟩] = evs M S L G Q) := by rw [Hid, evs, if_neg (by intro h; exact hMS h.2)]; simp [catS]
      have hbl : Below w.heap.size w ((w.alloc (.cells #[.int .i64 M, .slice A1 n1 c1, .int .i64 S, .slice A3 n3 c3, .int .i64 L, .int .i64 K, .int .i64 T, .int .i64 E] 25)).alloc (.cells #[.slice A1 n1 c1, .slice none 0 0, .slice A3 n3 c3] 23)) := allocB hb _
      go_enter Tryd.func19, Tryd.ntmps19
      go_wp2_with fail
      refine (concatC _ 3 3 [⟨A1, c1, G⟩, ⟨none, 0, []⟩, ⟨A3, c3, Q⟩] _ rfl (by omega) (by rw [HCS.out, evs_len, HN1.out, HN3.out]; split <;> omega) (by rw [HFS.out]; have := rd_new (w.alloc (.cells #[.int .i64 M, .slice A1 n1 c1, .int .i64 S, .slice A3 n3 c3, .int .i64 L, .int .i64 K, .int .i64 T, .int .i64 E] 25)) #[.slice A1 n1 c1, .slice none 0 0, .slice A3 n3 c3] 23; simpa using this) (fun k hk => ?_) (fun k hk => ?_)).mono ?_
      · match k, hk with
        | 0, _ => exact HA1.out.below (allocB (Below.refl _ _) _)
        | 1, _ => exact Rd.nil
        | 2, _ => exact HA3.out.below (allocB (Below.refl _ _) _)
      · match k, hk with
        | 0, _ => exact fun e => by have := HZ1.out e; exact ⟨by simpa [HN1.out] using this.1, this.2⟩
        | 1, _ => exact fun _ => ⟨rfl, rfl⟩
        | 2, _ => exact fun e => by have := HZ3.out e; exact ⟨by simpa [HN3.out] using this.1, this.2⟩
      rintro e w5 ⟨B5, d5, rfl, hr5, hb5⟩
      rw [HCS.out] at hr5 ⊢
      go_wp2_with fail
      go_ret
      exact ⟨B5, d5, rfl, row_mono hr5 hbl.size, seqB hbl hb5⟩
    · subst hMS
      go_enter Tryd.func19, Tryd.ntmps19
      go_wp2_with (at_builtin; refine wpList_app1g (w.alloc (.cells #[.int .i64 M, .slice A1 n1 c1, .int .i64 M, .slice A3 n3 c3, .int .i64 L, .int .i64 K, .int .i64 T, .int .i64 E] 25)) rfl _ _ _ rfl w.heap.size 3 i0 _ 1 8 Tryd.underlying23 HI.out rfl (by omega) (.slice none 0 0) 0 [] rfl row_zero #[.int .i64 L] (w.heap.size + 1) (by simp) rfl rfl (by simp [Value.oneCell']) (by omega) (by omega) hb.size ?_; intro v' w9 hown9 hg9; have hb9 : Below w.heap.size w w9 := row_alloc_grown hb rfl (row_zero (size := 1) (E := 3)) hg9; have hb0 : Below (w.alloc (.cells #[.int .i64 M, .slice A1 n1 c1, .int .i64 M, .slice A3 n3 c3, .int .i64 L, .int .i64 K, .int .i64 T, .int .i64 E] 25)).heap.size (w.alloc (.cells #[.int .i64 M, .slice A1 n1 c1, .int .i64 M, .slice A3 n3 c3, .int .i64 L, .int .i64 K, .int .i64 T, .int .i64 E] 25)) w9 := (allocB (Below.refl _ _) _).trans ⟨hg9.os, hg9.tape, hg9.output, hg9.size, fun k hk => hg9.block k (Nat.lt_of_lt_of_le hk (by simp)) (by simp [Value.ownBlock])⟩; have BX9 := be_box hbox hb0; have k1 := box_cell BX9 1; have k3 := box_cell BX9 3; obtain ⟨B9, d9, rfl, hr9⟩ := row_is (n' := 1) (cs' := ints [L]) hown9 rfl rfl; clear hown9)
      have HFS : Hid (flatS [⟨A1, c1, G⟩, ⟨B9, d9, [L]⟩, ⟨A3, c3, Q⟩] = [.slice A1 n1 c1, .slice B9 1 d9, .slice A3 n3 c3]) := by rw [Hid]; simp [flatS, SR.cells, HN1.out, HN3.out]
      have HCS : Hid (catS [⟨A1, c1, G⟩, ⟨B9, d9, [L]⟩, ⟨A3, c3, Q⟩] = evs M M L G Q) := by rw [Hid, evs, if_pos ⟨hL, rfl⟩]; simp [catS]
      have hbl : Below w.heap.size w (w9.alloc (.cells #[.slice A1 n1 c1, .slice B9 1 d9, .slice A3 n3 c3] 23)) := allocB hb9 _
      refine (concatC _ 3 3 [⟨A1, c1, G⟩, ⟨B9, d9, [L]⟩, ⟨A3, c3, Q⟩] _ rfl (by omega) (by rw [HCS.out, evs_len, HN1.out, HN3.out]; split <;> omega) (by rw [HFS.out]; have := rd_new w9 #[.slice A1 n1 c1, .slice B9 1 d9, .slice A3 n3 c3] 23; simpa using this) (fun k hk => ?_) (fun k hk => ?_)).mono ?_
      · match k, hk with
        | 0, _ => exact (HA1.out.below hb0).below (allocB (Below.refl _ _) _)
        | 1, _ => exact (rd_of_row hr9).below (allocB (Below.refl _ _) _)
        | 2, _ => exact (HA3.out.below hb0).below (allocB (Below.refl _ _) _)
      · match k, hk with
        | 0, _ => exact fun e => by have := HZ1.out e; exact ⟨by simpa [HN1.out] using this.1, this.2⟩
        | 1, _ => exact fun e => absurd (row_none hr9 e).1 (by omega)
        | 2, _ => exact fun e => by have := HZ3.out e; exact ⟨by simpa [HN3.out] using this.1, this.2⟩
      rintro e w5 ⟨B5, d5, rfl, hr5, hb5⟩
      rw [HCS.out] at hr5 ⊢
      go_wp2_with fail
      go_ret
      exact ⟨B5, d5, rfl, row_mono hr5 hbl.size, seqB hbl hb5⟩
set_option maxRecDepth 100000 in
set_option maxHeartbeats 8000000 in
theorem implPV (M : Int) (A1 : Option Addr) (n1 c1 : Nat) (G : List Int) (S : Int) (A3 : Option Addr) (n3 c3 : Nat) (Q : List Int) (L K T E : Int) (w : World) (hn1 : G.length = n1) (hm1 : n1 ≤ 1048576) (hA1 : Rd w A1 (ints G)) (hn3 : Q.length = n3) (hm3 : n3 ≤ 1048576) (hA3 : Rd w A3 (ints Q)) (hz1 : A1 = none → n1 = 0 ∧ c1 = 0) (hz3 : A3 = none → n3 = 0 ∧ c3 = 0) :
    Calls Tryd.prog 6 #[.agg #[.int .i64 M, .slice A1 n1 c1, .int .i64 S, .slice A3 n3 c3, .int .i64 L, .int .i64 K, .int .i64 T, .int .i64 E]] w fun e w' => e = .returned (.bool (pollB M S L K T E G Q)) ∧ Below w.heap.size w w' := by
  have HA1 := Lib.hid (hA1.below (allocB (Below.refl _ _) (.cells #[.int .i64 M, .slice A1 n1 c1, .int .i64 S, .slice A3 n3 c3, .int .i64 L, .int .i64 K, .int .i64 T, .int .i64 E] 25))); clear hA1
  have HA3 := Lib.hid (hA3.below (allocB (Below.refl _ _) (.cells #[.int .i64 M, .slice A1 n1 c1, .int .i64 S, .slice A3 n3 c3, .int .i64 L, .int .i64 K, .int .i64 T, .int .i64 E] 25))); clear hA3
  have HN1 := Lib.hid hn1; have HN3 := Lib.hid hn3; clear hn1 hn3
  have HZ1 := Lib.hid hz1; have HZ3 := Lib.hid hz3; clear hz1 hz3
  have hb : Below w.heap.size w (w.alloc (.cells #[.int .i64 M, .slice A1 n1 c1, .int .i64 S, .slice A3 n3 c3, .int .i64 L, .int .i64 K, .int .i64 T, .int .i64 E] 25)) := allocB (Below.refl _ _) _
  have hbox : Hid ((w.alloc (.cells #[.int .i64 M, .slice A1 n1 c1, .int .i64 S, .slice A3 n3 c3, .int .i64 L, .int .i64 K, .int .i64 T, .int .i64 E] 25)).heap[w.heap.size]? = some (.cells #[.int .i64 M, .slice A1 n1 c1, .int .i64 S, .slice A3 n3 c3, .int .i64 L, .int .i64 K, .int .i64 T, .int .i64 E] 25 (0, 0))) := heap_alloc_new w _
  have HFS : Hid (flatS [⟨A1, c1, G⟩, ⟨A3, c3, Q⟩] = [.slice A1 n1 c1, .slice A3 n3 c3]) := by rw [Hid]; simp [flatS, SR.cells, HN1.out, HN3.out]
  have HCS : Hid (catS [⟨A1, c1, G⟩, ⟨A3, c3, Q⟩] = G ++ Q) := by rw [Hid]; simp [catS]
  cases hM : inB M 0 1 with
  | false =>
    have bM := Lib.hid (bitC M false (w.alloc (.cells #[.int .i64 M, .slice A1 n1 c1, .int .i64 S, .slice A3 n3 c3, .int .i64 L, .int .i64 K, .int .i64 T, .int .i64 E] 25)) hM)
    go_enter Tryd.func6, Tryd.ntmps6
    go_wp2_with (first | (go_at_call 16; first | (refine Calls.mono (by with_reducible exact bM.out) ?_; rintro e w' ⟨rfl, rfl⟩)))
    go_ret
    exact ⟨ret_bool (by simp [pollB, hM]), hb⟩
  | true =>
    cases hS : inB S 0 1 with
    | false =>
      have bM := Lib.hid (bitC M true (w.alloc (.cells #[.int .i64 M, .slice A1 n1 c1, .int .i64 S, .slice A3 n3 c3, .int .i64 L, .int .i64 K, .int .i64 T, .int .i64 E] 25)) hM)
      have bS := Lib.hid (bitC S false (w.alloc (.cells #[.int .i64 M, .slice A1 n1 c1, .int .i64 S, .slice A3 n3 c3, .int .i64 L, .int .i64 K, .int .i64 T, .int .i64 E] 25)) hS)
      go_enter Tryd.func6, Tryd.ntmps6
      go_wp2_with (first | (go_at_call 16; first | (refine Calls.mono (by with_reducible exact bM.out) ?_; rintro e w' ⟨rfl, rfl⟩) | (refine Calls.mono (by with_reducible exact bS.out) ?_; rintro e w' ⟨rfl, rfl⟩)))
      go_ret
      exact ⟨ret_bool (by simp [pollB, hS]), hb⟩
    | true =>
      by_cases hKK : K = -1
      · subst hKK
        by_cases hT : T = -1
        · subst hT
          by_cases hL : L = -1
          · subst hL
            by_cases hE : E = -1
            · subst hE
              have bM := Lib.hid (bitC M true (w.alloc (.cells #[.int .i64 M, .slice A1 n1 c1, .int .i64 S, .slice A3 n3 c3, .int .i64 (-1), .int .i64 (-1), .int .i64 (-1), .int .i64 (-1)] 25)) hM)
              have bS := Lib.hid (bitC S true (w.alloc (.cells #[.int .i64 M, .slice A1 n1 c1, .int .i64 S, .slice A3 n3 c3, .int .i64 (-1), .int .i64 (-1), .int .i64 (-1), .int .i64 (-1)] 25)) hS)
              go_enter Tryd.func6, Tryd.ntmps6
              go_wp2_with (first | (go_at_call 16; first | (refine Calls.mono (by with_reducible exact bM.out) ?_; rintro e w' ⟨rfl, rfl⟩) | (refine Calls.mono (by with_reducible exact bS.out) ?_; rintro e w' ⟨rfl, rfl⟩)))
              have hbl : Below w.heap.size w ((w.alloc (.cells #[.int .i64 M, .slice A1 n1 c1, .int .i64 S, .slice A3 n3 c3, .int .i64 (-1), .int .i64 (-1), .int .i64 (-1), .int .i64 (-1)] 25)).alloc (.cells #[.slice A1 n1 c1, .slice A3 n3 c3] 23)) := allocB hb _
              refine (concatC _ 2 2 [⟨A1, c1, G⟩, ⟨A3, c3, Q⟩] _ rfl (by omega) (by rw [HCS.out, List.length_append, HN1.out, HN3.out]; omega) (by rw [HFS.out]; have := rd_new (w.alloc (.cells #[.int .i64 M, .slice A1 n1 c1, .int .i64 S, .slice A3 n3 c3, .int .i64 (-1), .int .i64 (-1), .int .i64 (-1), .int .i64 (-1)] 25)) #[.slice A1 n1 c1, .slice A3 n3 c3] 23; simpa using this) (fun k hk => ?_) (fun k hk => ?_)).mono ?_
              · match k, hk with
                | 0, _ => exact HA1.out.below (allocB (Below.refl _ _) _)
                | 1, _ => exact HA3.out.below (allocB (Below.refl _ _) _)
              · match k, hk with
                | 0, _ => exact fun e => by have := HZ1.out e; exact ⟨by simpa [HN1.out] using this.1, this.2⟩
                | 1, _ => exact fun e => by have := HZ3.out e; exact ⟨by simpa [HN3.out] using this.1, this.2⟩
              rintro e w5 ⟨B5, d5, rfl, hr5, hb5⟩
              rw [HCS.out] at hr5 ⊢
              have HCB := Lib.hid (evB_app G Q)
              have HCL : Hid ((G ++ Q).length = n1 + n3) := by rw [Hid, List.length_append, HN1.out, HN3.out]
              generalize G ++ Q = CS at *
              generalize hN : CS.length = N at *
              have HCN := Lib.hid hN; clear hN
              have hNb : N ≤ 2097152 := by have := HCL.out; omega
              have HRW := Lib.hid (rd_of_row hr5)
              clear hr5
              have BX := be_box (be_box hbox (allocB (Below.refl _ _) (.cells #[.slice A1 n1 c1, .slice A3 n3 c3] 23))) hb5
              have HB5 := Lib.hid hb5
              replace hb5 := seqB hbl hb5
              go_wp2_with fail
              go_loop [69] (fun i => ∃ k : Nat, k ≤ N ∧ i = .int .i64 k ∧ Hid (evB (CS.take k) = true)) (fun i => N - (intOf i).toNat)
              case atStart => exact ⟨0, by omega, rfl, by simp [Hid, evB]⟩
              case round =>
                obtain ⟨k, hk, rfl, hp⟩ := hrel
                by_cases hlt : k < N
                · obtain ⟨b, o, rfl, _, hc⟩ := HRW.out.int (k := k) (by rw [HCN.out]; exact hlt)
                  have HK : Hid (k < CS.length) := by rw [Hid, HCN.out]; exact hlt
                  have hki : (k : Int) < (N : Int) := by omega
                  cases hx : inB (CS.getD k 0) 0 999 with
                  | false =>
                    have HE := Lib.hid (evB_no HK.out hx)
                    have h2 : evB G = false ∨ evB Q = false := by have h1 := HCB.out; rw [HE.out] at h1; revert h1; cases evB G <;> cases evB Q <;> simp
                    have HPV : Hid (pollB M S (-1) (-1) (-1) (-1) G Q = false) := by rcases h2 with h | h <;> simp [Hid, pollB, h]
                    clear h2
                    generalize CS.getD k 0 = x at *
                    go_wp2_with (go_at_call 17; refine (pvC x false _ hx).mono ?_; rintro e w' ⟨rfl, rfl⟩)
                    go_ret
                    exact ⟨ret_bool HPV.out.symm, hb5⟩
                  | true =>
                    have HE := Lib.hid (evB_succ HK.out hp.out hx)
                    generalize CS.getD k 0 = x at *
                    go_wp2_with (go_at_call 17; refine (pvC x true _ hx).mono ?_; rintro e w' ⟨rfl, rfl⟩)
                    go_round
                    case rel => exact ⟨k + 1, by omega, by go_num, HE.out⟩
                    case measure => simp [intOf]; omega
                · have hki : ¬ ((k : Int) < (N : Int)) := by omega
                  have HEV : evB G = true ∧ evB Q = true := by have h1 := HCB.out; rw [← List.take_of_length_le (l := CS) (i := k) (by rw [HCN.out]; omega), hp.out] at h1; revert h1; cases evB G <;> cases evB Q <;> simp
                  have HEV2 := Lib.hid HEV; clear HEV hp
                  have g0 : w5.cell? ⟨w.heap.size, 0, none⟩ = some (.int .i64 M) := box_cell BX 0
                  have g1 : w5.cell? ⟨w.heap.size, 1, none⟩ = some (.slice A1 n1 c1) := box_cell BX 1
                  have g2 : w5.cell? ⟨w.heap.size, 2, none⟩ = some (.int .i64 S) := box_cell BX 2
                  have g3 : w5.cell? ⟨w.heap.size, 3, none⟩ = some (.slice A3 n3 c3) := box_cell BX 3
                  have g4 : w5.cell? ⟨w.heap.size, 4, none⟩ = some (.int .i64 (-1)) := box_cell BX 4
                  have g5 : w5.cell? ⟨w.heap.size, 5, none⟩ = some (.int .i64 (-1)) := box_cell BX 5
                  have g6 : w5.cell? ⟨w.heap.size, 6, none⟩ = some (.int .i64 (-1)) := box_cell BX 6
                  have g7 : w5.cell? ⟨w.heap.size, 7, none⟩ = some (.int .i64 (-1)) := box_cell BX 7
                  go_wp2_with fail
                  refine (eventsC M A1 n1 c1 G S A3 n3 c3 Q (-1) (-1) (-1) (-1) _ HN1.out hm1 ((HA1.out.below (allocB (Below.refl _ _) (.cells #[.slice A1 n1 c1, .slice A3 n3 c3] 23))).below HB5.out) HN3.out hm3 ((HA3.out.below (allocB (Below.refl _ _) (.cells #[.slice A1 n1 c1, .slice A3 n3 c3] 23))).below HB5.out) HZ1.out HZ3.out).mono ?_
                  rintro e w6 ⟨B6, d6, rfl, _, hb6⟩
                  have HLV := Lib.hid (pollB_last (M := M) (S := S) (L := -1) (K := -1) (T := -1) (E := -1) hM hS (by decide) (by decide) (by decide) (by decide) (by simp) HEV2.out.1 HEV2.out.2)
                  go_wp2_with fail
                  go_ret
                  exact ⟨ret_bool (by rw [HLV.out]; exact decide_eq_decide.2 (by omega)), seqB hb5 hb6⟩
            · have hE' : (E != -1) = true := by simpa using hE
              have hE2 : (E == -1) = false := by simpa using hE
              cases hE1 : inB E 0 999 with
              | false =>
                have bM := Lib.hid (bitC M true (w.alloc (.cells #[.int .i64 M, .slice A1 n1 c1, .int .i64 S, .slice A3 n3 c3, .int .i64 (-1), .int .i64 (-1), .int .i64 (-1), .int .i64 E] 25)) hM)
                have bS := Lib.hid (bitC S true (w.alloc (.cells #[.int .i64 M, .slice A1 n1 c1, .int .i64 S, .slice A3 n3 c3, .int .i64 (-1), .int .i64 (-1), .int .i64 (-1), .int .i64 E] 25)) hS)
                have pE := Lib.hid (pvC E false (w.alloc (.cells #[.int .i64 M, .slice A1 n1 c1, .int .i64 S, .slice A3 n3 c3, .int .i64 (-1), .int .i64 (-1), .int .i64 (-1), .int .i64 E] 25)) hE1)
                have hx : inB E (-1) 999 = false := inB_no (by have := (inB_not E 0 999).1 hE1; omega)
                go_enter Tryd.func6, Tryd.ntmps6
                go_wp2_with (first | (go_at_call 16; first | (refine Calls.mono (by with_reducible exact bM.out) ?_; rintro e w' ⟨rfl, rfl⟩) | (refine Calls.mono (by with_reducible exact bS.out) ?_; rintro e w' ⟨rfl, rfl⟩)) | (go_at_call 17; first | (refine Calls.mono (by with_reducible exact pE.out) ?_; rintro e w' ⟨rfl, rfl⟩)))
                go_ret
                exact ⟨ret_bool (by simp [pollB, hx]), hb⟩
              | true =>
                have bM := Lib.hid (bitC M true (w.alloc (.cells #[.int .i64 M, .slice A1 n1 c1, .int .i64 S, .slice A3 n3 c3, .int .i64 (-1), .int .i64 (-1), .int .i64 (-1), .int .i64 E] 25)) hM)
                have bS := Lib.hid (bitC S true (w.alloc (.cells #[.int .i64 M, .slice A1 n1 c1, .int .i64 S, .slice A3 n3 c3, .int .i64 (-1), .int .i64 (-1), .int .i64 (-1), .int .i64 E] 25)) hS)
                have pE := Lib.hid (pvC E true (w.alloc (.cells #[.int .i64 M, .slice A1 n1 c1, .int .i64 S, .slice A3 n3 c3, .int .i64 (-1), .int .i64 (-1), .int .i64 (-1), .int .i64 E] 25)) hE1)
                go_enter Tryd.func6, Tryd.ntmps6
                go_wp2_with (first | (go_at_call 16; first | (refine Calls.mono (by with_reducible exact bM.out) ?_; rintro e w' ⟨rfl, rfl⟩) | (refine Calls.mono (by with_reducible exact bS.out) ?_; rintro e w' ⟨rfl, rfl⟩)) | (go_at_call 17; first | (refine Calls.mono (by with_reducible exact pE.out) ?_; rintro e w' ⟨rfl, rfl⟩)))
                go_ret
                exact ⟨ret_bool (by simp [pollB, hE2]), hb⟩
          · have hL' : (L != -1) = true := by simpa using hL
            cases hL1 : inB L 0 999 with
            | false =>
              have bM := Lib.hid (bitC M true (w.alloc (.cells #[.int .i64 M, .slice A1 n1 c1, .int .i64 S, .slice A3 n3 c3, .int .i64 L, .int .i64 (-1), .int .i64 (-1), .int .i64 E] 25)) hM)
              have bS := Lib.hid (bitC S true (w.alloc (.cells #[.int .i64 M, .slice A1 n1 c1, .int .i64 S, .slice A3 n3 c3, .int .i64 L, .int .i64 (-1), .int .i64 (-1), .int .i64 E] 25)) hS)
              have pL := Lib.hid (pvC L false (w.alloc (.cells #[.int .i64 M, .slice A1 n1 c1, .int .i64 S, .slice A3 n3 c3, .int .i64 L, .int .i64 (-1), .int .i64 (-1), .int .i64 E] 25)) hL1)
              have hx : inB L (-1) 999 = false := inB_no (by have := (inB_not L 0 999).1 hL1; omega)
              go_enter Tryd.func6, Tryd.ntmps6
              go_wp2_with (first | (go_at_call 16; first | (refine Calls.mono (by with_reducible exact bM.out) ?_; rintro e w' ⟨rfl, rfl⟩) | (refine Calls.mono (by with_reducible exact bS.out) ?_; rintro e w' ⟨rfl, rfl⟩)) | (go_at_call 17; first | (refine Calls.mono (by with_reducible exact pL.out) ?_; rintro e w' ⟨rfl, rfl⟩)))
              go_ret
              exact ⟨ret_bool (by simp [pollB, hx]), hb⟩
            | true =>
              by_cases hE : E = -1
              · subst hE
                have bM := Lib.hid (bitC M true (w.alloc (.cells #[.int .i64 M, .slice A1 n1 c1, .int .i64 S, .slice A3 n3 c3, .int .i64 L, .int .i64 (-1), .int .i64 (-1), .int .i64 (-1)] 25)) hM)
                have bS := Lib.hid (bitC S true (w.alloc (.cells #[.int .i64 M, .slice A1 n1 c1, .int .i64 S, .slice A3 n3 c3, .int .i64 L, .int .i64 (-1), .int .i64 (-1), .int .i64 (-1)] 25)) hS)
                have pL := Lib.hid (pvC L true (w.alloc (.cells #[.int .i64 M, .slice A1 n1 c1, .int .i64 S, .slice A3 n3 c3, .int .i64 L, .int .i64 (-1), .int .i64 (-1), .int .i64 (-1)] 25)) hL1)
                go_enter Tryd.func6, Tryd.ntmps6
                go_wp2_with (first | (go_at_call 16; first | (refine Calls.mono (by with_reducible exact bM.out) ?_; rintro e w' ⟨rfl, rfl⟩) | (refine Calls.mono (by with_reducible exact bS.out) ?_; rintro e w' ⟨rfl, rfl⟩)) | (go_at_call 17; first | (refine Calls.mono (by with_reducible exact pL.out) ?_; rintro e w' ⟨rfl, rfl⟩)))
                have hbl : Below w.heap.size w ((w.alloc (.cells #[.int .i64 M, .slice A1 n1 c1, .int .i64 S, .slice A3 n3 c3, .int .i64 L, .int .i64 (-1), .int .i64 (-1), .int .i64 (-1)] 25)).alloc (.cells #[.slice A1 n1 c1, .slice A3 n3 c3] 23)) := allocB hb _
                refine (concatC _ 2 2 [⟨A1, c1, G⟩, ⟨A3, c3, Q⟩] _ rfl (by omega) (by rw [HCS.out, List.length_append, HN1.out, HN3.out]; omega) (by rw [HFS.out]; have := rd_new (w.alloc (.cells #[.int .i64 M, .slice A1 n1 c1, .int .i64 S, .slice A3 n3 c3, .int .i64 L, .int .i64 (-1), .int .i64 (-1), .int .i64 (-1)] 25)) #[.slice A1 n1 c1, .slice A3 n3 c3] 23; simpa using this) (fun k hk => ?_) (fun k hk => ?_)).mono ?_
                · match k, hk with
                  | 0, _ => exact HA1.out.below (allocB (Below.refl _ _) _)
                  | 1, _ => exact HA3.out.below (allocB (Below.refl _ _) _)
                · match k, hk with
                  | 0, _ => exact fun e => by have := HZ1.out e; exact ⟨by simpa [HN1.out] using this.1, this.2⟩
                  | 1, _ => exact fun e => by have := HZ3.out e; exact ⟨by simpa [HN3.out] using this.1, this.2⟩
                rintro e w5 ⟨B5, d5, rfl, hr5, hb5⟩
                rw [HCS.out] at hr5 ⊢
                have HCB := Lib.hid (evB_app G Q)
                have HCL : Hid ((G ++ Q).length = n1 + n3) := by rw [Hid, List.length_append, HN1.out, HN3.out]
                generalize G ++ Q = CS at *
                generalize hN : CS.length = N at *
                have HCN := Lib.hid hN; clear hN
                have hNb : N ≤ 2097152 := by have := HCL.out; omega
                have HRW := Lib.hid (rd_of_row hr5)
                clear hr5
                have BX := be_box (be_box hbox (allocB (Below.refl _ _) (.cells #[.slice A1 n1 c1, .slice A3 n3 c3] 23))) hb5
                have HB5 := Lib.hid hb5
                replace hb5 := seqB hbl hb5
                go_wp2_with fail
                go_loop [69] (fun i => ∃ k : Nat, k ≤ N ∧ i = .int .i64 k ∧ Hid (evB (CS.take k) = true)) (fun i => N - (intOf i).toNat)
                case atStart => exact ⟨0, by omega, rfl, by simp [Hid, evB]⟩
                case round =>
                  obtain ⟨k, hk, rfl, hp⟩ := hrel
                  by_cases hlt : k < N
                  · obtain ⟨b, o, rfl, _, hc⟩ := HRW.out.int (k := k) (by rw [HCN.out]; exact hlt)
                    have HK : Hid (k < CS.length) := by rw [Hid, HCN.out]; exact hlt
                    have hki : (k : Int) < (N : Int) := by omega
                    cases hx : inB (CS.getD k 0) 0 999 with
                    | false =>
                      have HE := Lib.hid (evB_no HK.out hx)
                      have h2 : evB G = false ∨ evB Q = false := by have h1 := HCB.out; rw [HE.out] at h1; revert h1; cases evB G <;> cases evB Q <;> simp
                      have HPV : Hid (pollB M S L (-1) (-1) (-1) G Q = false) := by rcases h2 with h | h <;> simp [Hid, pollB, h]
                      clear h2
                      generalize CS.getD k 0 = x at *
                      go_wp2_with (go_at_call 17; refine (pvC x false _ hx).mono ?_; rintro e w' ⟨rfl, rfl⟩)
                      go_ret
                      exact ⟨ret_bool HPV.out.symm, hb5⟩
                    | true =>
                      have HE := Lib.hid (evB_succ HK.out hp.out hx)
                      generalize CS.getD k 0 = x at *
                      go_wp2_with (go_at_call 17; refine (pvC x true _ hx).mono ?_; rintro e w' ⟨rfl, rfl⟩)
                      go_round
                      case rel => exact ⟨k + 1, by omega, by go_num, HE.out⟩
                      case measure => simp [intOf]; omega
                  · have hki : ¬ ((k : Int) < (N : Int)) := by omega
                    have HEV : evB G = true ∧ evB Q = true := by have h1 := HCB.out; rw [← List.take_of_length_le (l := CS) (i := k) (by rw [HCN.out]; omega), hp.out] at h1; revert h1; cases evB G <;> cases evB Q <;> simp
                    have HEV2 := Lib.hid HEV; clear HEV hp
                    have g0 : w5.cell? ⟨w.heap.size, 0, none⟩ = some (.int .i64 M) := box_cell BX 0
                    have g1 : w5.cell? ⟨w.heap.size, 1, none⟩ = some (.slice A1 n1 c1) := box_cell BX 1
                    have g2 : w5.cell? ⟨w.heap.size, 2, none⟩ = some (.int .i64 S) := box_cell BX 2
                    have g3 : w5.cell? ⟨w.heap.size, 3, none⟩ = some (.slice A3 n3 c3) := box_cell BX 3
                    have g4 : w5.cell? ⟨w.heap.size, 4, none⟩ = some (.int .i64 L) := box_cell BX 4
                    have g5 : w5.cell? ⟨w.heap.size, 5, none⟩ = some (.int .i64 (-1)) := box_cell BX 5
                    have g6 : w5.cell? ⟨w.heap.size, 6, none⟩ = some (.int .i64 (-1)) := box_cell BX 6
                    have g7 : w5.cell? ⟨w.heap.size, 7, none⟩ = some (.int .i64 (-1)) := box_cell BX 7
                    go_wp2_with fail
                    refine (eventsC M A1 n1 c1 G S A3 n3 c3 Q L (-1) (-1) (-1) _ HN1.out hm1 ((HA1.out.below (allocB (Below.refl _ _) (.cells #[.slice A1 n1 c1, .slice A3 n3 c3] 23))).below HB5.out) HN3.out hm3 ((HA3.out.below (allocB (Below.refl _ _) (.cells #[.slice A1 n1 c1, .slice A3 n3 c3] 23))).below HB5.out) HZ1.out HZ3.out).mono ?_
                    rintro e w6 ⟨B6, d6, rfl, _, hb6⟩
                    have HLV := Lib.hid (pollB_last (M := M) (S := S) (L := L) (K := -1) (T := -1) (E := -1) hM hS (by decide) (by decide) (inB_more hL1) (by decide) (by simp) HEV2.out.1 HEV2.out.2)
                    go_wp2_with fail
                    go_ret
                    exact ⟨ret_bool (by rw [HLV.out]; exact decide_eq_decide.2 (by omega)), seqB hb5 hb6⟩
              · have hE' : (E != -1) = true := by simpa using hE
                have hE2 : (E == -1) = false := by simpa using hE
                cases hE1 : inB E 0 999 with
                | false =>
                  have bM := Lib.hid (bitC M true (w.alloc (.cells #[.int .i64 M, .slice A1 n1 c1, .int .i64 S, .slice A3 n3 c3, .int .i64 L, .int .i64 (-1), .int .i64 (-1), .int .i64 E] 25)) hM)
                  have bS := Lib.hid (bitC S true (w.alloc (.cells #[.int .i64 M, .slice A1 n1 c1, .int .i64 S, .slice A3 n3 c3, .int .i64 L, .int .i64 (-1), .int .i64 (-1), .int .i64 E] 25)) hS)
                  have pL := Lib.hid (pvC L true (w.alloc (.cells #[.int .i64 M, .slice A1 n1 c1, .int .i64 S, .slice A3 n3 c3, .int .i64 L, .int .i64 (-1), .int .i64 (-1), .int .i64 E] 25)) hL1)
                  have pE := Lib.hid (pvC E false (w.alloc (.cells #[.int .i64 M, .slice A1 n1 c1, .int .i64 S, .slice A3 n3 c3, .int .i64 L, .int .i64 (-1), .int .i64 (-1), .int .i64 E] 25)) hE1)
                  have hx : inB E (-1) 999 = false := inB_no (by have := (inB_not E 0 999).1 hE1; omega)
                  go_enter Tryd.func6, Tryd.ntmps6
                  go_wp2_with (first | (go_at_call 16; first | (refine Calls.mono (by with_reducible exact bM.out) ?_; rintro e w' ⟨rfl, rfl⟩) | (refine Calls.mono (by with_reducible exact bS.out) ?_; rintro e w' ⟨rfl, rfl⟩)) | (go_at_call 17; first | (refine Calls.mono (by with_reducible exact pL.out) ?_; rintro e w' ⟨rfl, rfl⟩) | (refine Calls.mono (by with_reducible exact pE.out) ?_; rintro e w' ⟨rfl, rfl⟩)))
                  go_ret
                  exact ⟨ret_bool (by simp [pollB, hx]), hb⟩
                | true =>
                  have bM := Lib.hid (bitC M true (w.alloc (.cells #[.int .i64 M, .slice A1 n1 c1, .int .i64 S, .slice A3 n3 c3, .int .i64 L, .int .i64 (-1), .int .i64 (-1), .int .i64 E] 25)) hM)
                  have bS := Lib.hid (bitC S true (w.alloc (.cells #[.int .i64 M, .slice A1 n1 c1, .int .i64 S, .slice A3 n3 c3, .int .i64 L, .int .i64 (-1), .int .i64 (-1), .int .i64 E] 25)) hS)
                  have pL := Lib.hid (pvC L true (w.alloc (.cells #[.int .i64 M, .slice A1 n1 c1, .int .i64 S, .slice A3 n3 c3, .int .i64 L, .int .i64 (-1), .int .i64 (-1), .int .i64 E] 25)) hL1)
                  have pE := Lib.hid (pvC E true (w.alloc (.cells #[.int .i64 M, .slice A1 n1 c1, .int .i64 S, .slice A3 n3 c3, .int .i64 L, .int .i64 (-1), .int .i64 (-1), .int .i64 E] 25)) hE1)
                  go_enter Tryd.func6, Tryd.ntmps6
                  go_wp2_with (first | (go_at_call 16; first | (refine Calls.mono (by with_reducible exact bM.out) ?_; rintro e w' ⟨rfl, rfl⟩) | (refine Calls.mono (by with_reducible exact bS.out) ?_; rintro e w' ⟨rfl, rfl⟩)) | (go_at_call 17; first | (refine Calls.mono (by with_reducible exact pL.out) ?_; rintro e w' ⟨rfl, rfl⟩) | (refine Calls.mono (by with_reducible exact pE.out) ?_; rintro e w' ⟨rfl, rfl⟩)))
                  go_ret
                  exact ⟨ret_bool (by simp [pollB, hE2]), hb⟩
        · have hT' : (T != -1) = true := by simpa using hT
          have hT2 : (T == -1) = false := by simpa using hT
          cases hT1 : inB T 0 1 with
          | false =>
            have bM := Lib.hid (bitC M true (w.alloc (.cells #[.int .i64 M, .slice A1 n1 c1, .int .i64 S, .slice A3 n3 c3, .int .i64 L, .int .i64 (-1), .int .i64 T, .int .i64 E] 25)) hM)
            have bS := Lib.hid (bitC S true (w.alloc (.cells #[.int .i64 M, .slice A1 n1 c1, .int .i64 S, .slice A3 n3 c3, .int .i64 L, .int .i64 (-1), .int .i64 T, .int .i64 E] 25)) hS)
            have bT := Lib.hid (bitC T false (w.alloc (.cells #[.int .i64 M, .slice A1 n1 c1, .int .i64 S, .slice A3 n3 c3, .int .i64 L, .int .i64 (-1), .int .i64 T, .int .i64 E] 25)) hT1)
            have hx : inB T (-1) 1 = false := inB_no (by have := (inB_not T 0 1).1 hT1; omega)
            go_enter Tryd.func6, Tryd.ntmps6
            go_wp2_with (first | (go_at_call 16; first | (refine Calls.mono (by with_reducible exact bM.out) ?_; rintro e w' ⟨rfl, rfl⟩) | (refine Calls.mono (by with_reducible exact bS.out) ?_; rintro e w' ⟨rfl, rfl⟩) | (refine Calls.mono (by with_reducible exact bT.out) ?_; rintro e w' ⟨rfl, rfl⟩)))
            go_ret
            exact ⟨ret_bool (by simp [pollB, hx]), hb⟩
          | true =>
            by_cases hL : L = -1
            · subst hL
              by_cases hE : E = -1
              · subst hE
                have bM := Lib.hid (bitC M true (w.alloc (.cells #[.int .i64 M, .slice A1 n1 c1, .int .i64 S, .slice A3 n3 c3, .int .i64 (-1), .int .i64 (-1), .int .i64 T, .int .i64 (-1)] 25)) hM)
                have bS := Lib.hid (bitC S true (w.alloc (.cells #[.int .i64 M, .slice A1 n1 c1, .int .i64 S, .slice A3 n3 c3, .int .i64 (-1), .int .i64 (-1), .int .i64 T, .int .i64 (-1)] 25)) hS)
                have bT := Lib.hid (bitC T true (w.alloc (.cells #[.int .i64 M, .slice A1 n1 c1, .int .i64 S, .slice A3 n3 c3, .int .i64 (-1), .int .i64 (-1), .int .i64 T, .int .i64 (-1)] 25)) hT1)
                go_enter Tryd.func6, Tryd.ntmps6
                go_wp2_with (first | (go_at_call 16; first | (refine Calls.mono (by with_reducible exact bM.out) ?_; rintro e w' ⟨rfl, rfl⟩) | (refine Calls.mono (by with_reducible exact bS.out) ?_; rintro e w' ⟨rfl, rfl⟩) | (refine Calls.mono (by with_reducible exact bT.out) ?_; rintro e w' ⟨rfl, rfl⟩)))
                have hbl : Below w.heap.size w ((w.alloc (.cells #[.int .i64 M, .slice A1 n1 c1, .int .i64 S, .slice A3 n3 c3, .int .i64 (-1), .int .i64 (-1), .int .i64 T, .int .i64 (-1)] 25)).alloc (.cells #[.slice A1 n1 c1, .slice A3 n3 c3] 23)) := allocB hb _
                refine (concatC _ 2 2 [⟨A1, c1, G⟩, ⟨A3, c3, Q⟩] _ rfl (by omega) (by rw [HCS.out, List.length_append, HN1.out, HN3.out]; omega) (by rw [HFS.out]; have := rd_new (w.alloc (.cells #[.int .i64 M, .slice A1 n1 c1, .int .i64 S, .slice A3 n3 c3, .int .i64 (-1), .int .i64 (-1), .int .i64 T, .int .i64 (-1)] 25)) #[.slice A1 n1 c1, .slice A3 n3 c3] 23; simpa using this) (fun k hk => ?_) (fun k hk => ?_)).mono ?_
                · match k, hk with
                  | 0, _ => exact HA1.out.below (allocB (Below.refl _ _) _)
                  | 1, _ => exact HA3.out.below (allocB (Below.refl _ _) _)
                · match k, hk with
                  | 0, _ => exact fun e => by have := HZ1.out e; exact ⟨by simpa [HN1.out] using this.1, this.2⟩
                  | 1, _ => exact fun e => by have := HZ3.out e; exact ⟨by simpa [HN3.out] using this.1, this.2⟩
                rintro e w5 ⟨B5, d5, rfl, hr5, hb5⟩
                rw [HCS.out] at hr5 ⊢
                have HCB := Lib.hid (evB_app G Q)
                have HCL : Hid ((G ++ Q).length = n1 + n3) := by rw [Hid, List.length_append, HN1.out, HN3.out]
                generalize G ++ Q = CS at *
                generalize hN : CS.length = N at *
                have HCN := Lib.hid hN; clear hN
                have hNb : N ≤ 2097152 := by have := HCL.out; omega
                have HRW := Lib.hid (rd_of_row hr5)
                clear hr5
                have BX := be_box (be_box hbox (allocB (Below.refl _ _) (.cells #[.slice A1 n1 c1, .slice A3 n3 c3] 23))) hb5
                have HB5 := Lib.hid hb5
                replace hb5 := seqB hbl hb5
                go_wp2_with fail
                go_loop [69] (fun i => ∃ k : Nat, k ≤ N ∧ i = .int .i64 k ∧ Hid (evB (CS.take k) = true)) (fun i => N - (intOf i).toNat)
                case atStart => exact ⟨0, by omega, rfl, by simp [Hid, evB]⟩
                case round =>
                  obtain ⟨k, hk, rfl, hp⟩ := hrel
                  by_cases hlt : k < N
                  · obtain ⟨b, o, rfl, _, hc⟩ := HRW.out.int (k := k) (by rw [HCN.out]; exact hlt)
                    have HK : Hid (k < CS.length) := by rw [Hid, HCN.out]; exact hlt
                    have hki : (k : Int) < (N : Int) := by omega
                    cases hx : inB (CS.getD k 0) 0 999 with
                    | false =>
                      have HE := Lib.hid (evB_no HK.out hx)
                      have h2 : evB G = false ∨ evB Q = false := by have h1 := HCB.out; rw [HE.out] at h1; revert h1; cases evB G <;> cases evB Q <;> simp
                      have HPV : Hid (pollB M S (-1) (-1) T (-1) G Q = false) := by rcases h2 with h | h <;> simp [Hid, pollB, h]
                      clear h2
                      generalize CS.getD k 0 = x at *
                      go_wp2_with (go_at_call 17; refine (pvC x false _ hx).mono ?_; rintro e w' ⟨rfl, rfl⟩)
                      go_ret
                      exact ⟨ret_bool HPV.out.symm, hb5⟩
                    | true =>
                      have HE := Lib.hid (evB_succ HK.out hp.out hx)
                      generalize CS.getD k 0 = x at *
                      go_wp2_with (go_at_call 17; refine (pvC x true _ hx).mono ?_; rintro e w' ⟨rfl, rfl⟩)
                      go_round
                      case rel => exact ⟨k + 1, by omega, by go_num, HE.out⟩
                      case measure => simp [intOf]; omega
                  · have hki : ¬ ((k : Int) < (N : Int)) := by omega
                    have HEV : evB G = true ∧ evB Q = true := by have h1 := HCB.out; rw [← List.take_of_length_le (l := CS) (i := k) (by rw [HCN.out]; omega), hp.out] at h1; revert h1; cases evB G <;> cases evB Q <;> simp
                    have HEV2 := Lib.hid HEV; clear HEV hp
                    have g0 : w5.cell? ⟨w.heap.size, 0, none⟩ = some (.int .i64 M) := box_cell BX 0
                    have g1 : w5.cell? ⟨w.heap.size, 1, none⟩ = some (.slice A1 n1 c1) := box_cell BX 1
                    have g2 : w5.cell? ⟨w.heap.size, 2, none⟩ = some (.int .i64 S) := box_cell BX 2
                    have g3 : w5.cell? ⟨w.heap.size, 3, none⟩ = some (.slice A3 n3 c3) := box_cell BX 3
                    have g4 : w5.cell? ⟨w.heap.size, 4, none⟩ = some (.int .i64 (-1)) := box_cell BX 4
                    have g5 : w5.cell? ⟨w.heap.size, 5, none⟩ = some (.int .i64 (-1)) := box_cell BX 5
                    have g6 : w5.cell? ⟨w.heap.size, 6, none⟩ = some (.int .i64 T) := box_cell BX 6
                    have g7 : w5.cell? ⟨w.heap.size, 7, none⟩ = some (.int .i64 (-1)) := box_cell BX 7
                    go_wp2_with fail
                    refine (eventsC M A1 n1 c1 G S A3 n3 c3 Q (-1) (-1) T (-1) _ HN1.out hm1 ((HA1.out.below (allocB (Below.refl _ _) (.cells #[.slice A1 n1 c1, .slice A3 n3 c3] 23))).below HB5.out) HN3.out hm3 ((HA3.out.below (allocB (Below.refl _ _) (.cells #[.slice A1 n1 c1, .slice A3 n3 c3] 23))).below HB5.out) HZ1.out HZ3.out).mono ?_
                    rintro e w6 ⟨B6, d6, rfl, _, hb6⟩
                    have HLV := Lib.hid (pollB_last (M := M) (S := S) (L := -1) (K := -1) (T := T) (E := -1) hM hS (by decide) (inB_more hT1) (by decide) (by decide) (by simp) HEV2.out.1 HEV2.out.2)
                    go_wp2_with fail
                    go_ret
                    exact ⟨ret_bool (by rw [HLV.out]; exact decide_eq_decide.2 (by omega)), seqB hb5 hb6⟩
              · have hE' : (E != -1) = true := by simpa using hE
                have hE2 : (E == -1) = false := by simpa using hE
                cases hE1 : inB E 0 999 with
                | false =>
                  have bM := Lib.hid (bitC M true (w.alloc (.cells #[.int .i64 M, .slice A1 n1 c1, .int .i64 S, .slice A3 n3 c3, .int .i64 (-1), .int .i64 (-1), .int .i64 T, .int .i64 E] 25)) hM)
                  have bS := Lib.hid (bitC S true (w.alloc (.cells #[.int .i64 M, .slice A1 n1 c1, .int .i64 S, .slice A3 n3 c3, .int .i64 (-1), .int .i64 (-1), .int .i64 T, .int .i64 E] 25)) hS)
                  have bT := Lib.hid (bitC T true (w.alloc (.cells #[.int .i64 M, .slice A1 n1 c1, .int .i64 S, .slice A3 n3 c3, .int .i64 (-1), .int .i64 (-1), .int .i64 T, .int .i64 E] 25)) hT1)
                  have pE := Lib.hid (pvC E false (w.alloc (.cells #[.int .i64 M, .slice A1 n1 c1, .int .i64 S, .slice A3 n3 c3, .int .i64 (-1), .int .i64 (-1), .int .i64 T, .int .i64 E] 25)) hE1)
                  have hx : inB E (-1) 999 = false := inB_no (by have := (inB_not E 0 999).1 hE1; omega)
                  go_enter Tryd.func6, Tryd.ntmps6
                  go_wp2_with (first | (go_at_call 16; first | (refine Calls.mono (by with_reducible exact bM.out) ?_; rintro e w' ⟨rfl, rfl⟩) | (refine Calls.mono (by with_reducible exact bS.out) ?_; rintro e w' ⟨rfl, rfl⟩) | (refine Calls.mono (by with_reducible exact bT.out) ?_; rintro e w' ⟨rfl, rfl⟩)) | (go_at_call 17; first | (refine Calls.mono (by with_reducible exact pE.out) ?_; rintro e w' ⟨rfl, rfl⟩)))
                  go_ret
                  exact ⟨ret_bool (by simp [pollB, hx]), hb⟩
                | true =>
                  have bM := Lib.hid (bitC M true (w.alloc (.cells #[.int .i64 M, .slice A1 n1 c1, .int .i64 S, .slice A3 n3 c3, .int .i64 (-1), .int .i64 (-1), .int .i64 T, .int .i64 E] 25)) hM)
                  have bS := Lib.hid (bitC S true (w.alloc (.cells #[.int .i64 M, .slice A1 n1 c1, .int .i64 S, .slice A3 n3 c3, .int .i64 (-1), .int .i64 (-1), .int .i64 T, .int .i64 E] 25)) hS)
                  have bT := Lib.hid (bitC T true (w.alloc (.cells #[.int .i64 M, .slice A1 n1 c1, .int .i64 S, .slice A3 n3 c3, .int .i64 (-1), .int .i64 (-1), .int .i64 T, .int .i64 E] 25)) hT1)
                  have pE := Lib.hid (pvC E true (w.alloc (.cells #[.int .i64 M, .slice A1 n1 c1, .int .i64 S, .slice A3 n3 c3, .int .i64 (-1), .int .i64 (-1), .int .i64 T, .int .i64 E] 25)) hE1)
                  go_enter Tryd.func6, Tryd.ntmps6
                  go_wp2_with (first | (go_at_call 16; first | (refine Calls.mono (by with_reducible exact bM.out) ?_; rintro e w' ⟨rfl, rfl⟩) | (refine Calls.mono (by with_reducible exact bS.out) ?_; rintro e w' ⟨rfl, rfl⟩) | (refine Calls.mono (by with_reducible exact bT.out) ?_; rintro e w' ⟨rfl, rfl⟩)) | (go_at_call 17; first | (refine Calls.mono (by with_reducible exact pE.out) ?_; rintro e w' ⟨rfl, rfl⟩)))
                  have hbl : Below w.heap.size w ((w.alloc (.cells #[.int .i64 M, .slice A1 n1 c1, .int .i64 S, .slice A3 n3 c3, .int .i64 (-1), .int .i64 (-1), .int .i64 T, .int .i64 E] 25)).alloc (.cells #[.slice A1 n1 c1, .slice A3 n3 c3] 23)) := allocB hb _
                  refine (concatC _ 2 2 [⟨A1, c1, G⟩, ⟨A3, c3, Q⟩] _ rfl (by omega) (by rw [HCS.out, List.length_append, HN1.out, HN3.out]; omega) (by rw [HFS.out]; have := rd_new (w.alloc (.cells #[.int .i64 M, .slice A1 n1 c1, .int .i64 S, .slice A3 n3 c3, .int .i64 (-1), .int .i64 (-1), .int .i64 T, .int .i64 E] 25)) #[.slice A1 n1 c1, .slice A3 n3 c3] 23; simpa using this) (fun k hk => ?_) (fun k hk => ?_)).mono ?_
                  · match k, hk with
                    | 0, _ => exact HA1.out.below (allocB (Below.refl _ _) _)
                    | 1, _ => exact HA3.out.below (allocB (Below.refl _ _) _)
                  · match k, hk with
                    | 0, _ => exact fun e => by have := HZ1.out e; exact ⟨by simpa [HN1.out] using this.1, this.2⟩
                    | 1, _ => exact fun e => by have := HZ3.out e; exact ⟨by simpa [HN3.out] using this.1, this.2⟩
                  rintro e w5 ⟨B5, d5, rfl, hr5, hb5⟩
                  rw [HCS.out] at hr5 ⊢
                  have HCB := Lib.hid (evB_app G Q)
                  have HCL : Hid ((G ++ Q).length = n1 + n3) := by rw [Hid, List.length_append, HN1.out, HN3.out]
                  generalize G ++ Q = CS at *
                  generalize hN : CS.length = N at *
                  have HCN := Lib.hid hN; clear hN
                  have hNb : N ≤ 2097152 := by have := HCL.out; omega
                  have HRW := Lib.hid (rd_of_row hr5)
                  clear hr5
                  have BX := be_box (be_box hbox (allocB (Below.refl _ _) (.cells #[.slice A1 n1 c1, .slice A3 n3 c3] 23))) hb5
                  have HB5 := Lib.hid hb5
                  replace hb5 := seqB hbl hb5
                  go_wp2_with fail
                  go_loop [69] (fun i => ∃ k : Nat, k ≤ N ∧ i = .int .i64 k ∧ Hid (evB (CS.take k) = true)) (fun i => N - (intOf i).toNat)
                  case atStart => exact ⟨0, by omega, rfl, by simp [Hid, evB]⟩
                  case round =>
                    obtain ⟨k, hk, rfl, hp⟩ := hrel
                    by_cases hlt : k < N
                    · obtain ⟨b, o, rfl, _, hc⟩ := HRW.out.int (k := k) (by rw [HCN.out]; exact hlt)
                      have HK : Hid (k < CS.length) := by rw [Hid, HCN.out]; exact hlt
                      have hki : (k : Int) < (N : Int) := by omega
                      cases hx : inB (CS.getD k 0) 0 999 with
                      | false =>
                        have HE := Lib.hid (evB_no HK.out hx)
                        have h2 : evB G = false ∨ evB Q = false := by have h1 := HCB.out; rw [HE.out] at h1; revert h1; cases evB G <;> cases evB Q <;> simp
                        have HPV : Hid (pollB M S (-1) (-1) T E G Q = false) := by rcases h2 with h | h <;> simp [Hid, pollB, h]
                        clear h2
                        generalize CS.getD k 0 = x at *
                        go_wp2_with (go_at_call 17; refine (pvC x false _ hx).mono ?_; rintro e w' ⟨rfl, rfl⟩)
                        go_ret
                        exact ⟨ret_bool HPV.out.symm, hb5⟩
                      | true =>
                        have HE := Lib.hid (evB_succ HK.out hp.out hx)
                        generalize CS.getD k 0 = x at *
                        go_wp2_with (go_at_call 17; refine (pvC x true _ hx).mono ?_; rintro e w' ⟨rfl, rfl⟩)
                        go_round
                        case rel => exact ⟨k + 1, by omega, by go_num, HE.out⟩
                        case measure => simp [intOf]; omega
                    · have hki : ¬ ((k : Int) < (N : Int)) := by omega
                      have HEV : evB G = true ∧ evB Q = true := by have h1 := HCB.out; rw [← List.take_of_length_le (l := CS) (i := k) (by rw [HCN.out]; omega), hp.out] at h1; revert h1; cases evB G <;> cases evB Q <;> simp
                      have HEV2 := Lib.hid HEV; clear HEV hp
                      have g0 : w5.cell? ⟨w.heap.size, 0, none⟩ = some (.int .i64 M) := box_cell BX 0
                      have g1 : w5.cell? ⟨w.heap.size, 1, none⟩ = some (.slice A1 n1 c1) := box_cell BX 1
                      have g2 : w5.cell? ⟨w.heap.size, 2, none⟩ = some (.int .i64 S) := box_cell BX 2
                      have g3 : w5.cell? ⟨w.heap.size, 3, none⟩ = some (.slice A3 n3 c3) := box_cell BX 3
                      have g4 : w5.cell? ⟨w.heap.size, 4, none⟩ = some (.int .i64 (-1)) := box_cell BX 4
                      have g5 : w5.cell? ⟨w.heap.size, 5, none⟩ = some (.int .i64 (-1)) := box_cell BX 5
                      have g6 : w5.cell? ⟨w.heap.size, 6, none⟩ = some (.int .i64 T) := box_cell BX 6
                      have g7 : w5.cell? ⟨w.heap.size, 7, none⟩ = some (.int .i64 E) := box_cell BX 7
                      go_wp2_with fail
                      refine (eventsC M A1 n1 c1 G S A3 n3 c3 Q (-1) (-1) T E _ HN1.out hm1 ((HA1.out.below (allocB (Below.refl _ _) (.cells #[.slice A1 n1 c1, .slice A3 n3 c3] 23))).below HB5.out) HN3.out hm3 ((HA3.out.below (allocB (Below.refl _ _) (.cells #[.slice A1 n1 c1, .slice A3 n3 c3] 23))).below HB5.out) HZ1.out HZ3.out).mono ?_
                      rintro e w6 ⟨B6, d6, rfl, _, hb6⟩
                      have HLV := Lib.hid (pollB_last (M := M) (S := S) (L := -1) (K := -1) (T := T) (E := E) hM hS (by decide) (inB_more hT1) (by decide) (inB_more hE1) (by have := (inB_iff T 0 1).1 hT1; simp [this.1]) HEV2.out.1 HEV2.out.2)
                      go_wp2_with fail
                      go_ret
                      exact ⟨ret_bool (by rw [HLV.out]; exact decide_eq_decide.2 (by omega)), seqB hb5 hb6⟩
            · have hL' : (L != -1) = true := by simpa using hL
              cases hL1 : inB L 0 999 with
              | false =>
                have bM := Lib.hid (bitC M true (w.alloc (.cells #[.int .i64 M, .slice A1 n1 c1, .int .i64 S, .slice A3 n3 c3, .int .i64 L, .int .i64 (-1), .int .i64 T, .int .i64 E] 25)) hM)
                have bS := Lib.hid (bitC S true (w.alloc (.cells #[.int .i64 M, .slice A1 n1 c1, .int .i64 S, .slice A3 n3 c3, .int .i64 L, .int .i64 (-1), .int .i64 T, .int .i64 E] 25)) hS)
                have bT := Lib.hid (bitC T true (w.alloc (.cells #[.int .i64 M, .slice A1 n1 c1, .int .i64 S, .slice A3 n3 c3, .int .i64 L, .int .i64 (-1), .int .i64 T, .int .i64 E] 25)) hT1)
                have pL := Lib.hid (pvC L false (w.alloc (.cells #[.int .i64 M, .slice A1 n1 c1, .int .i64 S, .slice A3 n3 c3, .int .i64 L, .int .i64 (-1), .int .i64 T, .int .i64 E] 25)) hL1)
                have hx : inB L (-1) 999 = false := inB_no (by have := (inB_not L 0 999).1 hL1; omega)
                go_enter Tryd.func6, Tryd.ntmps6
                go_wp2_with (first | (go_at_call 16; first | (refine Calls.mono (by with_reducible exact bM.out) ?_; rintro e w' ⟨rfl, rfl⟩) | (refine Calls.mono (by with_reducible exact bS.out) ?_; rintro e w' ⟨rfl, rfl⟩) | (refine Calls.mono (by with_reducible exact bT.out) ?_; rintro e w' ⟨rfl, rfl⟩)) | (go_at_call 17; first | (refine Calls.mono (by with_reducible exact pL.out) ?_; rintro e w' ⟨rfl, rfl⟩)))
                go_ret
                exact ⟨ret_bool (by simp [pollB, hx]), hb⟩
              | true =>
                by_cases hE : E = -1
                · subst hE
                  have bM := Lib.hid (bitC M true (w.alloc (.cells #[.int .i64 M, .slice A1 n1 c1, .int .i64 S, .slice A3 n3 c3, .int .i64 L, .int .i64 (-1), .int .i64 T, .int .i64 (-1)] 25)) hM)
                  have bS := Lib.hid (bitC S true (w.alloc (.cells #[.int .i64 M, .slice A1 n1 c1, .int .i64 S, .slice A3 n3 c3, .int .i64 L, .int .i64 (-1), .int .i64 T, .int .i64 (-1)] 25)) hS)
                  have bT := Lib.hid (bitC T true (w.alloc (.cells #[.int .i64 M, .slice A1 n1 c1, .int .i64 S, .slice A3 n3 c3, .int .i64 L, .int .i64 (-1), .int .i64 T, .int .i64 (-1)] 25)) hT1)
                  have pL := Lib.hid (pvC L true (w.alloc (.cells #[.int .i64 M, .slice A1 n1 c1, .int .i64 S, .slice A3 n3 c3, .int .i64 L, .int .i64 (-1), .int .i64 T, .int .i64 (-1)] 25)) hL1)
                  go_enter Tryd.func6, Tryd.ntmps6
                  go_wp2_with (first | (go_at_call 16; first | (refine Calls.mono (by with_reducible exact bM.out) ?_; rintro e w' ⟨rfl, rfl⟩) | (refine Calls.mono (by with_reducible exact bS.out) ?_; rintro e w' ⟨rfl, rfl⟩) | (refine Calls.mono (by with_reducible exact bT.out) ?_; rintro e w' ⟨rfl, rfl⟩)) | (go_at_call 17; first | (refine Calls.mono (by with_reducible exact pL.out) ?_; rintro e w' ⟨rfl, rfl⟩)))
                  have hbl : Below w.heap.size w ((w.alloc (.cells #[.int .i64 M, .slice A1 n1 c1, .int .i64 S, .slice A3 n3 c3, .int .i64 L, .int .i64 (-1), .int .i64 T, .int .i64 (-1)] 25)).alloc (.cells #[.slice A1 n1 c1, .slice A3 n3 c3] 23)) := allocB hb _
                  refine (concatC _ 2 2 [⟨A1, c1, G⟩, ⟨A3, c3, Q⟩] _ rfl (by omega) (by rw [HCS.out, List.length_append, HN1.out, HN3.out]; omega) (by rw [HFS.out]; have := rd_new (w.alloc (.cells #[.int .i64 M, .slice A1 n1 c1, .int .i64 S, .slice A3 n3 c3, .int .i64 L, .int .i64 (-1), .int .i64 T, .int .i64 (-1)] 25)) #[.slice A1 n1 c1, .slice A3 n3 c3] 23; simpa using this) (fun k hk => ?_) (fun k hk => ?_)).mono ?_
                  · match k, hk with
                    | 0, _ => exact HA1.out.below (allocB (Below.refl _ _) _)
                    | 1, _ => exact HA3.out.below (allocB (Below.refl _ _) _)
                  · match k, hk with
                    | 0, _ => exact fun e => by have := HZ1.out e; exact ⟨by simpa [HN1.out] using this.1, this.2⟩
                    | 1, _ => exact fun e => by have := HZ3.out e; exact ⟨by simpa [HN3.out] using this.1, this.2⟩
                  rintro e w5 ⟨B5, d5, rfl, hr5, hb5⟩
                  rw [HCS.out] at hr5 ⊢
                  have HCB := Lib.hid (evB_app G Q)
                  have HCL : Hid ((G ++ Q).length = n1 + n3) := by rw [Hid, List.length_append, HN1.out, HN3.out]
                  generalize G ++ Q = CS at *
                  generalize hN : CS.length = N at *
                  have HCN := Lib.hid hN; clear hN
                  have hNb : N ≤ 2097152 := by have := HCL.out; omega
                  have HRW := Lib.hid (rd_of_row hr5)
                  clear hr5
                  have BX := be_box (be_box hbox (allocB (Below.refl _ _) (.cells #[.slice A1 n1 c1, .slice A3 n3 c3] 23))) hb5
                  have HB5 := Lib.hid hb5
                  replace hb5 := seqB hbl hb5
                  go_wp2_with fail
                  go_loop [69] (fun i => ∃ k : Nat, k ≤ N ∧ i = .int .i64 k ∧ Hid (evB (CS.take k) = true)) (fun i => N - (intOf i).toNat)
                  case atStart => exact ⟨0, by omega, rfl, by simp [Hid, evB]⟩
                  case round =>
                    obtain ⟨k, hk, rfl, hp⟩ := hrel
                    by_cases hlt : k < N
                    · obtain ⟨b, o, rfl, _, hc⟩ := HRW.out.int (k := k) (by rw [HCN.out]; exact hlt)
                      have HK : Hid (k < CS.length) := by rw [Hid, HCN.out]; exact hlt
                      have hki : (k : Int) < (N : Int) := by omega
                      cases hx : inB (CS.getD k 0) 0 999 with
                      | false =>
                        have HE := Lib.hid (evB_no HK.out hx)
                        have h2 : evB G = false ∨ evB Q = false := by have h1 := HCB.out; rw [HE.out] at h1; revert h1; cases evB G <;> cases evB Q <;> simp
                        have HPV : Hid (pollB M S L (-1) T (-1) G Q = false) := by rcases h2 with h | h <;> simp [Hid, pollB, h]
                        clear h2
                        generalize CS.getD k 0 = x at *
                        go_wp2_with (go_at_call 17; refine (pvC x false _ hx).mono ?_; rintro e w' ⟨rfl, rfl⟩)
                        go_ret
                        exact ⟨ret_bool HPV.out.symm, hb5⟩
                      | true =>
                        have HE := Lib.hid (evB_succ HK.out hp.out hx)
                        generalize CS.getD k 0 = x at *
                        go_wp2_with (go_at_call 17; refine (pvC x true _ hx).mono ?_; rintro e w' ⟨rfl, rfl⟩)
                        go_round
                        case rel => exact ⟨k + 1, by omega, by go_num, HE.out⟩
                        case measure => simp [intOf]; omega
                    · have hki : ¬ ((k : Int) < (N : Int)) := by omega
                      have HEV : evB G = true ∧ evB Q = true := by have h1 := HCB.out; rw [← List.take_of_length_le (l := CS) (i := k) (by rw [HCN.out]; omega), hp.out] at h1; revert h1; cases evB G <;> cases evB Q <;> simp
                      have HEV2 := Lib.hid HEV; clear HEV hp
                      have g0 : w5.cell? ⟨w.heap.size, 0, none⟩ = some (.int .i64 M) := box_cell BX 0
                      have g1 : w5.cell? ⟨w.heap.size, 1, none⟩ = some (.slice A1 n1 c1) := box_cell BX 1
                      have g2 : w5.cell? ⟨w.heap.size, 2, none⟩ = some (.int .i64 S) := box_cell BX 2
                      have g3 : w5.cell? ⟨w.heap.size, 3, none⟩ = some (.slice A3 n3 c3) := box_cell BX 3
                      have g4 : w5.cell? ⟨w.heap.size, 4, none⟩ = some (.int .i64 L) := box_cell BX 4
                      have g5 : w5.cell? ⟨w.heap.size, 5, none⟩ = some (.int .i64 (-1)) := box_cell BX 5
                      have g6 : w5.cell? ⟨w.heap.size, 6, none⟩ = some (.int .i64 T) := box_cell BX 6
                      have g7 : w5.cell? ⟨w.heap.size, 7, none⟩ = some (.int .i64 (-1)) := box_cell BX 7
                      go_wp2_with fail
                      refine (eventsC M A1 n1 c1 G S A3 n3 c3 Q L (-1) T (-1) _ HN1.out hm1 ((HA1.out.below (allocB (Below.refl _ _) (.cells #[.slice A1 n1 c1, .slice A3 n3 c3] 23))).below HB5.out) HN3.out hm3 ((HA3.out.below (allocB (Below.refl _ _) (.cells #[.slice A1 n1 c1, .slice A3 n3 c3] 23))).below HB5.out) HZ1.out HZ3.out).mono ?_
                      rintro e w6 ⟨B6, d6, rfl, _, hb6⟩
                      have HLV := Lib.hid (pollB_last (M := M) (S := S) (L := L) (K := -1) (T := T) (E := -1) hM hS (by decide) (inB_more hT1) (inB_more hL1) (by decide) (by simp) HEV2.out.1 HEV2.out.2)
                      go_wp2_with fail
                      go_ret
                      exact ⟨ret_bool (by rw [HLV.out]; exact decide_eq_decide.2 (by omega)), seqB hb5 hb6⟩
                · have hE' : (E != -1) = true := by simpa using hE
                  have hE2 : (E == -1) = false := by simpa using hE
                  cases hE1 : inB E 0 999 with
                  | false =>
                    have bM := Lib.hid (bitC M true (w.alloc (.cells #[.int .i64 M, .slice A1 n1 c1, .int .i64 S, .slice A3 n3 c3, .int .i64 L, .int .i64 (-1), .int .i64 T, .int .i64 E] 25)) hM)
                    have bS := Lib.hid (bitC S true (w.alloc (.cells #[.int .i64 M, .slice A1 n1 c1, .int .i64 S, .slice A3 n3 c3, .int .i64 L, .int .i64 (-1), .int .i64 T, .int .i64 E] 25)) hS)
                    have bT := Lib.hid (bitC T true (w.alloc (.cells #[.int .i64 M, .slice A1 n1 c1, .int .i64 S, .slice A3 n3 c3, .int .i64 L, .int .i64 (-1), .int .i64 T, .int .i64 E] 25)) hT1)
                    have pL := Lib.hid (pvC L true (w.alloc (.cells #[.int .i64 M, .slice A1 n1 c1, .int .i64 S, .slice A3 n3 c3, .int .i64 L, .int .i64 (-1), .int .i64 T, .int .i64 E] 25)) hL1)
                    have pE := Lib.hid (pvC E false (w.alloc (.cells #[.int .i64 M, .slice A1 n1 c1, .int .i64 S, .slice A3 n3 c3, .int .i64 L, .int .i64 (-1), .int .i64 T, .int .i64 E] 25)) hE1)
                    have hx : inB E (-1) 999 = false := inB_no (by have := (inB_not E 0 999).1 hE1; omega)
                    go_enter Tryd.func6, Tryd.ntmps6
                    go_wp2_with (first | (go_at_call 16; first | (refine Calls.mono (by with_reducible exact bM.out) ?_; rintro e w' ⟨rfl, rfl⟩) | (refine Calls.mono (by with_reducible exact bS.out) ?_; rintro e w' ⟨rfl, rfl⟩) | (refine Calls.mono (by with_reducible exact bT.out) ?_; rintro e w' ⟨rfl, rfl⟩)) | (go_at_call 17; first | (refine Calls.mono (by with_reducible exact pL.out) ?_; rintro e w' ⟨rfl, rfl⟩) | (refine Calls.mono (by with_reducible exact pE.out) ?_; rintro e w' ⟨rfl, rfl⟩)))
                    go_ret
                    exact ⟨ret_bool (by simp [pollB, hx]), hb⟩
                  | true =>
                    have bM := Lib.hid (bitC M true (w.alloc (.cells #[.int .i64 M, .slice A1 n1 c1, .int .i64 S, .slice A3 n3 c3, .int .i64 L, .int .i64 (-1), .int .i64 T, .int .i64 E] 25)) hM)
                    have bS := Lib.hid (bitC S true (w.alloc (.cells #[.int .i64 M, .slice A1 n1 c1, .int .i64 S, .slice A3 n3 c3, .int .i64 L, .int .i64 (-1), .int .i64 T, .int .i64 E] 25)) hS)
                    have bT := Lib.hid (bitC T true (w.alloc (.cells #[.int .i64 M, .slice A1 n1 c1, .int .i64 S, .slice A3 n3 c3, .int .i64 L, .int .i64 (-1), .int .i64 T, .int .i64 E] 25)) hT1)
                    have pL := Lib.hid (pvC L true (w.alloc (.cells #[.int .i64 M, .slice A1 n1 c1, .int .i64 S, .slice A3 n3 c3, .int .i64 L, .int .i64 (-1), .int .i64 T, .int .i64 E] 25)) hL1)
                    have pE := Lib.hid (pvC E true (w.alloc (.cells #[.int .i64 M, .slice A1 n1 c1, .int .i64 S, .slice A3 n3 c3, .int .i64 L, .int .i64 (-1), .int .i64 T, .int .i64 E] 25)) hE1)
                    go_enter Tryd.func6, Tryd.ntmps6
                    go_wp2_with (first | (go_at_call 16; first | (refine Calls.mono (by with_reducible exact bM.out) ?_; rintro e w' ⟨rfl, rfl⟩) | (refine Calls.mono (by with_reducible exact bS.out) ?_; rintro e w' ⟨rfl, rfl⟩) | (refine Calls.mono (by with_reducible exact bT.out) ?_; rintro e w' ⟨rfl, rfl⟩)) | (go_at_call 17; first | (refine Calls.mono (by with_reducible exact pL.out) ?_; rintro e w' ⟨rfl, rfl⟩) | (refine Calls.mono (by with_reducible exact pE.out) ?_; rintro e w' ⟨rfl, rfl⟩)))
                    have hbl : Below w.heap.size w ((w.alloc (.cells #[.int .i64 M, .slice A1 n1 c1, .int .i64 S, .slice A3 n3 c3, .int .i64 L, .int .i64 (-1), .int .i64 T, .int .i64 E] 25)).alloc (.cells #[.slice A1 n1 c1, .slice A3 n3 c3] 23)) := allocB hb _
                    refine (concatC _ 2 2 [⟨A1, c1, G⟩, ⟨A3, c3, Q⟩] _ rfl (by omega) (by rw [HCS.out, List.length_append, HN1.out, HN3.out]; omega) (by rw [HFS.out]; have := rd_new (w.alloc (.cells #[.int .i64 M, .slice A1 n1 c1, .int .i64 S, .slice A3 n3 c3, .int .i64 L, .int .i64 (-1), .int .i64 T, .int .i64 E] 25)) #[.slice A1 n1 c1, .slice A3 n3 c3] 23; simpa using this) (fun k hk => ?_) (fun k hk => ?_)).mono ?_
                    · match k, hk with
                      | 0, _ => exact HA1.out.below (allocB (Below.refl _ _) _)
                      | 1, _ => exact HA3.out.below (allocB (Below.refl _ _) _)
                    · match k, hk with
                      | 0, _ => exact fun e => by have := HZ1.out e; exact ⟨by simpa [HN1.out] using this.1, this.2⟩
                      | 1, _ => exact fun e => by have := HZ3.out e; exact ⟨by simpa [HN3.out] using this.1, this.2⟩
                    rintro e w5 ⟨B5, d5, rfl, hr5, hb5⟩
                    rw [HCS.out] at hr5 ⊢
                    have HCB := Lib.hid (evB_app G Q)
                    have HCL : Hid ((G ++ Q).length = n1 + n3) := by rw [Hid, List.length_append, HN1.out, HN3.out]
                    generalize G ++ Q = CS at *
                    generalize hN : CS.length = N at *
                    have HCN := Lib.hid hN; clear hN
                    have hNb : N ≤ 2097152 := by have := HCL.out; omega
                    have HRW := Lib.hid (rd_of_row hr5)
                    clear hr5
                    have BX := be_box (be_box hbox (allocB (Below.refl _ _) (.cells #[.slice A1 n1 c1, .slice A3 n3 c3] 23))) hb5
                    have HB5 := Lib.hid hb5
                    replace hb5 := seqB hbl hb5
                    go_wp2_with fail
                    go_loop [69] (fun i => ∃ k : Nat, k ≤ N ∧ i = .int .i64 k ∧ Hid (evB (CS.take k) = true)) (fun i => N - (intOf i).toNat)
                    case atStart => exact ⟨0, by omega, rfl, by simp [Hid, evB]⟩
                    case round =>
                      obtain ⟨k, hk, rfl, hp⟩ := hrel
                      by_cases hlt : k < N
                      · obtain ⟨b, o, rfl, _, hc⟩ := HRW.out.int (k := k) (by rw [HCN.out]; exact hlt)
                        have HK : Hid (k < CS.length) := by rw [Hid, HCN.out]; exact hlt
                        have hki : (k : Int) < (N : Int) := by omega
                        cases hx : inB (CS.getD k 0) 0 999 with
                        | false =>
                          have HE := Lib.hid (evB_no HK.out hx)
                          have h2 : evB G = false ∨ evB Q = false := by have h1 := HCB.out; rw [HE.out] at h1; revert h1; cases evB G <;> cases evB Q <;> simp
                          have HPV : Hid (pollB M S L (-1) T E G Q = false) := by rcases h2 with h | h <;> simp [Hid, pollB, h]
                          clear h2
                          generalize CS.getD k 0 = x at *
                          go_wp2_with (go_at_call 17; refine (pvC x false _ hx).mono ?_; rintro e w' ⟨rfl, rfl⟩)
                          go_ret
                          exact ⟨ret_bool HPV.out.symm, hb5⟩
                        | true =>
                          have HE := Lib.hid (evB_succ HK.out hp.out hx)
                          generalize CS.getD k 0 = x at *
                          go_wp2_with (go_at_call 17; refine (pvC x true _ hx).mono ?_; rintro e w' ⟨rfl, rfl⟩)
                          go_round
                          case rel => exact ⟨k + 1, by omega, by go_num, HE.out⟩
                          case measure => simp [intOf]; omega
                      · have hki : ¬ ((k : Int) < (N : Int)) := by omega
                        have HEV : evB G = true ∧ evB Q = true := by have h1 := HCB.out; rw [← List.take_of_length_le (l := CS) (i := k) (by rw [HCN.out]; omega), hp.out] at h1; revert h1; cases evB G <;> cases evB Q <;> simp
                        have HEV2 := Lib.hid HEV; clear HEV hp
                        have g0 : w5.cell? ⟨w.heap.size, 0, none⟩ = some (.int .i64 M) := box_cell BX 0
                        have g1 : w5.cell? ⟨w.heap.size, 1, none⟩ = some (.slice A1 n1 c1) := box_cell BX 1
                        have g2 : w5.cell? ⟨w.heap.size, 2, none⟩ = some (.int .i64 S) := box_cell BX 2
                        have g3 : w5.cell? ⟨w.heap.size, 3, none⟩ = some (.slice A3 n3 c3) := box_cell BX 3
                        have g4 : w5.cell? ⟨w.heap.size, 4, none⟩ = some (.int .i64 L) := box_cell BX 4
                        have g5 : w5.cell? ⟨w.heap.size, 5, none⟩ = some (.int .i64 (-1)) := box_cell BX 5
                        have g6 : w5.cell? ⟨w.heap.size, 6, none⟩ = some (.int .i64 T) := box_cell BX 6
                        have g7 : w5.cell? ⟨w.heap.size, 7, none⟩ = some (.int .i64 E) := box_cell BX 7
                        go_wp2_with fail
                        refine (eventsC M A1 n1 c1 G S A3 n3 c3 Q L (-1) T E _ HN1.out hm1 ((HA1.out.below (allocB (Below.refl _ _) (.cells #[.slice A1 n1 c1, .slice A3 n3 c3] 23))).below HB5.out) HN3.out hm3 ((HA3.out.below (allocB (Below.refl _ _) (.cells #[.slice A1 n1 c1, .slice A3 n3 c3] 23))).below HB5.out) HZ1.out HZ3.out).mono ?_
                        rintro e w6 ⟨B6, d6, rfl, _, hb6⟩
                        have HLV := Lib.hid (pollB_last (M := M) (S := S) (L := L) (K := -1) (T := T) (E := E) hM hS (by decide) (inB_more hT1) (inB_more hL1) (inB_more hE1) (by have := (inB_iff T 0 1).1 hT1; simp [this.1]) HEV2.out.1 HEV2.out.2)
                        go_wp2_with fail
                        go_ret
                        exact ⟨ret_bool (by rw [HLV.out]; exact decide_eq_decide.2 (by omega)), seqB hb5 hb6⟩
      · have hK' : (K != -1) = true := by simpa using hKK
        cases hK : inB K 0 1 with
        | false =>
          have bM := Lib.hid (bitC M true (w.alloc (.cells #[.int .i64 M, .slice A1 n1 c1, .int .i64 S, .slice A3 n3 c3, .int .i64 L, .int .i64 K, .int .i64 T, .int .i64 E] 25)) hM)
          have bS := Lib.hid (bitC S true (w.alloc (.cells #[.int .i64 M, .slice A1 n1 c1, .int .i64 S, .slice A3 n3 c3, .int .i64 L, .int .i64 K, .int .i64 T, .int .i64 E] 25)) hS)
          have bK := Lib.hid (bitC K false (w.alloc (.cells #[.int .i64 M, .slice A1 n1 c1, .int .i64 S, .slice A3 n3 c3, .int .i64 L, .int .i64 K, .int .i64 T, .int .i64 E] 25)) hK)
          have hx : inB K (-1) 1 = false := inB_no (by have := (inB_not K 0 1).1 hK; omega)
          go_enter Tryd.func6, Tryd.ntmps6
          go_wp2_with (first | (go_at_call 16; first | (refine Calls.mono (by with_reducible exact bM.out) ?_; rintro e w' ⟨rfl, rfl⟩) | (refine Calls.mono (by with_reducible exact bS.out) ?_; rintro e w' ⟨rfl, rfl⟩) | (refine Calls.mono (by with_reducible exact bK.out) ?_; rintro e w' ⟨rfl, rfl⟩)))
          go_ret
          exact ⟨ret_bool (by simp [pollB, hx]), hb⟩
        | true =>
          by_cases hT : T = -1
          · subst hT
            by_cases hL : L = -1
            · subst hL
              by_cases hE : E = -1
              · subst hE
                have bM := Lib.hid (bitC M true (w.alloc (.cells #[.int .i64 M, .slice A1 n1 c1, .int .i64 S, .slice A3 n3 c3, .int .i64 (-1), .int .i64 K, .int .i64 (-1), .int .i64 (-1)] 25)) hM)
                have bS := Lib.hid (bitC S true (w.alloc (.cells #[.int .i64 M, .slice A1 n1 c1, .int .i64 S, .slice A3 n3 c3, .int .i64 (-1), .int .i64 K, .int .i64 (-1), .int .i64 (-1)] 25)) hS)
                have bK := Lib.hid (bitC K true (w.alloc (.cells #[.int .i64 M, .slice A1 n1 c1, .int .i64 S, .slice A3 n3 c3, .int .i64 (-1), .int .i64 K, .int .i64 (-1), .int .i64 (-1)] 25)) hK)
                go_enter Tryd.func6, Tryd.ntmps6
                go_wp2_with (first | (go_at_call 16; first | (refine Calls.mono (by with_reducible exact bM.out) ?_; rintro e w' ⟨rfl, rfl⟩) | (refine Calls.mono (by with_reducible exact bS.out) ?_; rintro e w' ⟨rfl, rfl⟩) | (refine Calls.mono (by with_reducible exact bK.out) ?_; rintro e w' ⟨rfl, rfl⟩)))
                have hbl : Below w.heap.size w ((w.alloc (.cells #[.int .i64 M, .slice A1 n1 c1, .int .i64 S, .slice A3 n3 c3, .int .i64 (-1), .int .i64 K, .int .i64 (-1), .int .i64 (-1)] 25)).alloc (.cells #[.slice A1 n1 c1, .slice A3 n3 c3] 23)) := allocB hb _
                refine (concatC _ 2 2 [⟨A1, c1, G⟩, ⟨A3, c3, Q⟩] _ rfl (by omega) (by rw [HCS.out, List.length_append, HN1.out, HN3.out]; omega) (by rw [HFS.out]; have := rd_new (w.alloc (.cells #[.int .i64 M, .slice A1 n1 c1, .int .i64 S, .slice A3 n3 c3, .int .i64 (-1), .int .i64 K, .int .i64 (-1), .int .i64 (-1)] 25)) #[.slice A1 n1 c1, .slice A3 n3 c3] 23; simpa using this) (fun k hk => ?_) (fun k hk => ?_)).mono ?_
                · match k, hk with
                  | 0, _ => exact HA1.out.below (allocB (Below.refl _ _) _)
                  | 1, _ => exact HA3.out.below (allocB (Below.refl _ _) _)
                · match k, hk with
                  | 0, _ => exact fun e => by have := HZ1.out e; exact ⟨by simpa [HN1.out] using this.1, this.2⟩
                  | 1, _ => exact fun e => by have := HZ3.out e; exact ⟨by simpa [HN3.out] using this.1, this.2⟩
                rintro e w5 ⟨B5, d5, rfl, hr5, hb5⟩
                rw [HCS.out] at hr5 ⊢
                have HCB := Lib.hid (evB_app G Q)
                have HCL : Hid ((G ++ Q).length = n1 + n3) := by rw [Hid, List.length_append, HN1.out, HN3.out]
                generalize G ++ Q = CS at *
                generalize hN : CS.length = N at *
                have HCN := Lib.hid hN; clear hN
                have hNb : N ≤ 2097152 := by have := HCL.out; omega
                have HRW := Lib.hid (rd_of_row hr5)
                clear hr5
                have BX := be_box (be_box hbox (allocB (Below.refl _ _) (.cells #[.slice A1 n1 c1, .slice A3 n3 c3] 23))) hb5
                have HB5 := Lib.hid hb5
                replace hb5 := seqB hbl hb5
                go_wp2_with fail
                go_loop [69] (fun i => ∃ k : Nat, k ≤ N ∧ i = .int .i64 k ∧ Hid (evB (CS.take k) = true)) (fun i => N - (intOf i).toNat)
                case atStart => exact ⟨0, by omega, rfl, by simp [Hid, evB]⟩
                case round =>
                  obtain ⟨k, hk, rfl, hp⟩ := hrel
                  by_cases hlt : k < N
                  · obtain ⟨b, o, rfl, _, hc⟩ := HRW.out.int (k := k) (by rw [HCN.out]; exact hlt)
                    have HK : Hid (k < CS.length) := by rw [Hid, HCN.out]; exact hlt
                    have hki : (k : Int) < (N : Int) := by omega
                    cases hx : inB (CS.getD k 0) 0 999 with
                    | false =>
                      have HE := Lib.hid (evB_no HK.out hx)
                      have h2 : evB G = false ∨ evB Q = false := by have h1 := HCB.out; rw [HE.out] at h1; revert h1; cases evB G <;> cases evB Q <;> simp
                      have HPV : Hid (pollB M S (-1) K (-1) (-1) G Q = false) := by rcases h2 with h | h <;> simp [Hid, pollB, h]
                      clear h2
                      generalize CS.getD k 0 = x at *
                      go_wp2_with (go_at_call 17; refine (pvC x false _ hx).mono ?_; rintro e w' ⟨rfl, rfl⟩)
                      go_ret
                      exact ⟨ret_bool HPV.out.symm, hb5⟩
                    | true =>
                      have HE := Lib.hid (evB_succ HK.out hp.out hx)
                      generalize CS.getD k 0 = x at *
                      go_wp2_with (go_at_call 17; refine (pvC x true _ hx).mono ?_; rintro e w' ⟨rfl, rfl⟩)
                      go_round
                      case rel => exact ⟨k + 1, by omega, by go_num, HE.out⟩
                      case measure => simp [intOf]; omega
                  · have hki : ¬ ((k : Int) < (N : Int)) := by omega
                    have HEV : evB G = true ∧ evB Q = true := by have h1 := HCB.out; rw [← List.take_of_length_le (l := CS) (i := k) (by rw [HCN.out]; omega), hp.out] at h1; revert h1; cases evB G <;> cases evB Q <;> simp
                    have HEV2 := Lib.hid HEV; clear HEV hp
                    have g0 : w5.cell? ⟨w.heap.size, 0, none⟩ = some (.int .i64 M) := box_cell BX 0
                    have g1 : w5.cell? ⟨w.heap.size, 1, none⟩ = some (.slice A1 n1 c1) := box_cell BX 1
                    have g2 : w5.cell? ⟨w.heap.size, 2, none⟩ = some (.int .i64 S) := box_cell BX 2
                    have g3 : w5.cell? ⟨w.heap.size, 3, none⟩ = some (.slice A3 n3 c3) := box_cell BX 3
                    have g4 : w5.cell? ⟨w.heap.size, 4, none⟩ = some (.int .i64 (-1)) := box_cell BX 4
                    have g5 : w5.cell? ⟨w.heap.size, 5, none⟩ = some (.int .i64 K) := box_cell BX 5
                    have g6 : w5.cell? ⟨w.heap.size, 6, none⟩ = some (.int .i64 (-1)) := box_cell BX 6
                    have g7 : w5.cell? ⟨w.heap.size, 7, none⟩ = some (.int .i64 (-1)) := box_cell BX 7
                    go_wp2_with fail
                    refine (eventsC M A1 n1 c1 G S A3 n3 c3 Q (-1) K (-1) (-1) _ HN1.out hm1 ((HA1.out.below (allocB (Below.refl _ _) (.cells #[.slice A1 n1 c1, .slice A3 n3 c3] 23))).below HB5.out) HN3.out hm3 ((HA3.out.below (allocB (Below.refl _ _) (.cells #[.slice A1 n1 c1, .slice A3 n3 c3] 23))).below HB5.out) HZ1.out HZ3.out).mono ?_
                    rintro e w6 ⟨B6, d6, rfl, _, hb6⟩
                    have HLV := Lib.hid (pollB_last (M := M) (S := S) (L := -1) (K := K) (T := -1) (E := -1) hM hS (inB_more hK) (by decide) (by decide) (by decide) (by simp) HEV2.out.1 HEV2.out.2)
                    go_wp2_with fail
                    go_ret
                    exact ⟨ret_bool (by rw [HLV.out]; exact decide_eq_decide.2 (by omega)), seqB hb5 hb6⟩
              · have hE' : (E != -1) = true := by simpa using hE
                have hE2 : (E == -1) = false := by simpa using hE
                cases hE1 : inB E 0 999 with
                | false =>
                  have bM := Lib.hid (bitC M true (w.alloc (.cells #[.int .i64 M, .slice A1 n1 c1, .int .i64 S, .slice A3 n3 c3, .int .i64 (-1), .int .i64 K, .int .i64 (-1), .int .i64 E] 25)) hM)
                  have bS := Lib.hid (bitC S true (w.alloc (.cells #[.int .i64 M, .slice A1 n1 c1, .int .i64 S, .slice A3 n3 c3, .int .i64 (-1), .int .i64 K, .int .i64 (-1), .int .i64 E] 25)) hS)
                  have bK := Lib.hid (bitC K true (w.alloc (.cells #[.int .i64 M, .slice A1 n1 c1, .int .i64 S, .slice A3 n3 c3, .int .i64 (-1), .int .i64 K, .int .i64 (-1), .int .i64 E] 25)) hK)
                  have pE := Lib.hid (pvC E false (w.alloc (.cells #[.int .i64 M, .slice A1 n1 c1, .int .i64 S, .slice A3 n3 c3, .int .i64 (-1), .int .i64 K, .int .i64 (-1), .int .i64 E] 25)) hE1)
                  have hx : inB E (-1) 999 = false := inB_no (by have := (inB_not E 0 999).1 hE1; omega)
                  go_enter Tryd.func6, Tryd.ntmps6
                  go_wp2_with (first | (go_at_call 16; first | (refine Calls.mono (by with_reducible exact bM.out) ?_; rintro e w' ⟨rfl, rfl⟩) | (refine Calls.mono (by with_reducible exact bS.out) ?_; rintro e w' ⟨rfl, rfl⟩) | (refine Calls.mono (by with_reducible exact bK.out) ?_; rintro e w' ⟨rfl, rfl⟩)) | (go_at_call 17; first | (refine Calls.mono (by with_reducible exact pE.out) ?_; rintro e w' ⟨rfl, rfl⟩)))
                  go_ret
                  exact ⟨ret_bool (by simp [pollB, hx]), hb⟩
                | true =>
                  have bM := Lib.hid (bitC M true (w.alloc (.cells #[.int .i64 M, .slice A1 n1 c1, .int .i64 S, .slice A3 n3 c3, .int .i64 (-1), .int .i64 K, .int .i64 (-1), .int .i64 E] 25)) hM)
                  have bS := Lib.hid (bitC S true (w.alloc (.cells #[.int .i64 M, .slice A1 n1 c1, .int .i64 S, .slice A3 n3 c3, .int .i64 (-1), .int .i64 K, .int .i64 (-1), .int .i64 E] 25)) hS)
                  have bK := Lib.hid (bitC K true (w.alloc (.cells #[.int .i64 M, .slice A1 n1 c1, .int .i64 S, .slice A3 n3 c3, .int .i64 (-1), .int .i64 K, .int .i64 (-1), .int .i64 E] 25)) hK)
                  have pE := Lib.hid (pvC E true (w.alloc (.cells #[.int .i64 M, .slice A1 n1 c1, .int .i64 S, .slice A3 n3 c3, .int .i64 (-1), .int .i64 K, .int .i64 (-1), .int .i64 E] 25)) hE1)
                  go_enter Tryd.func6, Tryd.ntmps6
                  go_wp2_with (first | (go_at_call 16; first | (refine Calls.mono (by with_reducible exact bM.out) ?_; rintro e w' ⟨rfl, rfl⟩) | (refine Calls.mono (by with_reducible exact bS.out) ?_; rintro e w' ⟨rfl, rfl⟩) | (refine Calls.mono (by with_reducible exact bK.out) ?_; rintro e w' ⟨rfl, rfl⟩)) | (go_at_call 17; first | (refine Calls.mono (by with_reducible exact pE.out) ?_; rintro e w' ⟨rfl, rfl⟩)))
                  go_ret
                  exact ⟨ret_bool (by simp [pollB, hE2]), hb⟩
            · have hL' : (L != -1) = true := by simpa using hL
              cases hL1 : inB L 0 999 with
              | false =>
                have bM := Lib.hid (bitC M true (w.alloc (.cells #[.int .i64 M, .slice A1 n1 c1, .int .i64 S, .slice A3 n3 c3, .int .i64 L, .int .i64 K, .int .i64 (-1), .int .i64 E] 25)) hM)
                have bS := Lib.hid (bitC S true (w.alloc (.cells #[.int .i64 M, .slice A1 n1 c1, .int .i64 S, .slice A3 n3 c3, .int .i64 L, .int .i64 K, .int .i64 (-1), .int .i64 E] 25)) hS)
                have bK := Lib.hid (bitC K true (w.alloc (.cells #[.int .i64 M, .slice A1 n1 c1, .int .i64 S, .slice A3 n3 c3, .int .i64 L, .int .i64 K, .int .i64 (-1), .int .i64 E] 25)) hK)
                have pL := Lib.hid (pvC L false (w.alloc (.cells #[.int .i64 M, .slice A1 n1 c1, .int .i64 S, .slice A3 n3 c3, .int .i64 L, .int .i64 K, .int .i64 (-1), .int .i64 E] 25)) hL1)
                have hx : inB L (-1) 999 = false := inB_no (by have := (inB_not L 0 999).1 hL1; omega)
                go_enter Tryd.func6, Tryd.ntmps6
                go_wp2_with (first | (go_at_call 16; first | (refine Calls.mono (by with_reducible exact bM.out) ?_; rintro e w' ⟨rfl, rfl⟩) | (refine Calls.mono (by with_reducible exact bS.out) ?_; rintro e w' ⟨rfl, rfl⟩) | (refine Calls.mono (by with_reducible exact bK.out) ?_; rintro e w' ⟨rfl, rfl⟩)) | (go_at_call 17; first | (refine Calls.mono (by with_reducible exact pL.out) ?_; rintro e w' ⟨rfl, rfl⟩)))
                go_ret
                exact ⟨ret_bool (by simp [pollB, hx]), hb⟩
              | true =>
                by_cases hE : E = -1
                · subst hE
                  have bM := Lib.hid (bitC M true (w.alloc (.cells #[.int .i64 M, .slice A1 n1 c1, .int .i64 S, .slice A3 n3 c3, .int .i64 L, .int .i64 K, .int .i64 (-1), .int .i64 (-1)] 25)) hM)
                  have bS := Lib.hid (bitC S true (w.alloc (.cells #[.int .i64 M, .slice A1 n1 c1, .int .i64 S, .slice A3 n3 c3, .int .i64 L, .int .i64 K, .int .i64 (-1), .int .i64 (-1)] 25)) hS)
                  have bK := Lib.hid (bitC K true (w.alloc (.cells #[.int .i64 M, .slice A1 n1 c1, .int .i64 S, .slice A3 n3 c3, .int .i64 L, .int .i64 K, .int .i64 (-1), .int .i64 (-1)] 25)) hK)
                  have pL := Lib.hid (pvC L true (w.alloc (.cells #[.int .i64 M, .slice A1 n1 c1, .int .i64 S, .slice A3 n3 c3, .int .i64 L, .int .i64 K, .int .i64 (-1), .int .i64 (-1)] 25)) hL1)
                  go_enter Tryd.func6, Tryd.ntmps6
                  go_wp2_with (first | (go_at_call 16; first | (refine Calls.mono (by with_reducible exact bM.out) ?_; rintro e w' ⟨rfl, rfl⟩) | (refine Calls.mono (by with_reducible exact bS.out) ?_; rintro e w' ⟨rfl, rfl⟩) | (refine Calls.mono (by with_reducible exact bK.out) ?_; rintro e w' ⟨rfl, rfl⟩)) | (go_at_call 17; first | (refine Calls.mono (by with_reducible exact pL.out) ?_; rintro e w' ⟨rfl, rfl⟩)))
                  have hbl : Below w.heap.size w ((w.alloc (.cells #[.int .i64 M, .slice A1 n1 c1, .int .i64 S, .slice A3 n3 c3, .int .i64 L, .int .i64 K, .int .i64 (-1), .int .i64 (-1)] 25)).alloc (.cells #[.slice A1 n1 c1, .slice A3 n3 c3] 23)) := allocB hb _
                  refine (concatC _ 2 2 [⟨A1, c1, G⟩, ⟨A3, c3, Q⟩] _ rfl (by omega) (by rw [HCS.out, List.length_append, HN1.out, HN3.out]; omega) (by rw [HFS.out]; have := rd_new (w.alloc (.cells #[.int .i64 M, .slice A1 n1 c1, .int .i64 S, .slice A3 n3 c3, .int .i64 L, .int .i64 K, .int .i64 (-1), .int .i64 (-1)] 25)) #[.slice A1 n1 c1, .slice A3 n3 c3] 23; simpa using this) (fun k hk => ?_) (fun k hk => ?_)).mono ?_
                  · match k, hk with
                    | 0, _ => exact HA1.out.below (allocB (Below.refl _ _) _)
                    | 1, _ => exact HA3.out.below (allocB (Below.refl _ _) _)
                  · match k, hk with
                    | 0, _ => exact fun e => by have := HZ1.out e; exact ⟨by simpa [HN1.out] using this.1, this.2⟩
                    | 1, _ => exact fun e => by have := HZ3.out e; exact ⟨by simpa [HN3.out] using this.1, this.2⟩
                  rintro e w5 ⟨B5, d5, rfl, hr5, hb5⟩
                  rw [HCS.out] at hr5 ⊢
                  have HCB := Lib.hid (evB_app G Q)
                  have HCL : Hid ((G ++ Q).length = n1 + n3) := by rw [Hid, List.length_append, HN1.out, HN3.out]
                  generalize G ++ Q = CS at *
                  generalize hN : CS.length = N at *
                  have HCN := Lib.hid hN; clear hN
                  have hNb : N ≤ 2097152 := by have := HCL.out; omega
                  have HRW := Lib.hid (rd_of_row hr5)
                  clear hr5
                  have BX := be_box (be_box hbox (allocB (Below.refl _ _) (.cells #[.slice A1 n1 c1, .slice A3 n3 c3] 23))) hb5
                  have HB5 := Lib.hid hb5
                  replace hb5 := seqB hbl hb5
                  go_wp2_with fail
                  go_loop [69] (fun i => ∃ k : Nat, k ≤ N ∧ i = .int .i64 k ∧ Hid (evB (CS.take k) = true)) (fun i => N - (intOf i).toNat)
                  case atStart => exact ⟨0, by omega, rfl, by simp [Hid, evB]⟩
                  case round =>
                    obtain ⟨k, hk, rfl, hp⟩ := hrel
                    by_cases hlt : k < N
                    · obtain ⟨b, o, rfl, _, hc⟩ := HRW.out.int (k := k) (by rw [HCN.out]; exact hlt)
                      have HK : Hid (k < CS.length) := by rw [Hid, HCN.out]; exact hlt
                      have hki : (k : Int) < (N : Int) := by omega
                      cases hx : inB (CS.getD k 0) 0 999 with
                      | false =>
                        have HE := Lib.hid (evB_no HK.out hx)
                        have h2 : evB G = false ∨ evB Q = false := by have h1 := HCB.out; rw [HE.out] at h1; revert h1; cases evB G <;> cases evB Q <;> simp
                        have HPV : Hid (pollB M S L K (-1) (-1) G Q = false) := by rcases h2 with h | h <;> simp [Hid, pollB, h]
                        clear h2
                        generalize CS.getD k 0 = x at *
                        go_wp2_with (go_at_call 17; refine (pvC x false _ hx).mono ?_; rintro e w' ⟨rfl, rfl⟩)
                        go_ret
                        exact ⟨ret_bool HPV.out.symm, hb5⟩
                      | true =>
                        have HE := Lib.hid (evB_succ HK.out hp.out hx)
                        generalize CS.getD k 0 = x at *
                        go_wp2_with (go_at_call 17; refine (pvC x true _ hx).mono ?_; rintro e w' ⟨rfl, rfl⟩)
                        go_round
                        case rel => exact ⟨k + 1, by omega, by go_num, HE.out⟩
                        case measure => simp [intOf]; omega
                    · have hki : ¬ ((k : Int) < (N : Int)) := by omega
                      have HEV : evB G = true ∧ evB Q = true := by have h1 := HCB.out; rw [← List.take_of_length_le (l := CS) (i := k) (by rw [HCN.out]; omega), hp.out] at h1; revert h1; cases evB G <;> cases evB Q <;> simp
                      have HEV2 := Lib.hid HEV; clear HEV hp
                      have g0 : w5.cell? ⟨w.heap.size, 0, none⟩ = some (.int .i64 M) := box_cell BX 0
                      have g1 : w5.cell? ⟨w.heap.size, 1, none⟩ = some (.slice A1 n1 c1) := box_cell BX 1
                      have g2 : w5.cell? ⟨w.heap.size, 2, none⟩ = some (.int .i64 S) := box_cell BX 2
                      have g3 : w5.cell? ⟨w.heap.size, 3, none⟩ = some (.slice A3 n3 c3) := box_cell BX 3
                      have g4 : w5.cell? ⟨w.heap.size, 4, none⟩ = some (.int .i64 L) := box_cell BX 4
                      have g5 : w5.cell? ⟨w.heap.size, 5, none⟩ = some (.int .i64 K) := box_cell BX 5
                      have g6 : w5.cell? ⟨w.heap.size, 6, none⟩ = some (.int .i64 (-1)) := box_cell BX 6
                      have g7 : w5.cell? ⟨w.heap.size, 7, none⟩ = some (.int .i64 (-1)) := box_cell BX 7
                      go_wp2_with fail
                      refine (eventsC M A1 n1 c1 G S A3 n3 c3 Q L K (-1) (-1) _ HN1.out hm1 ((HA1.out.below (allocB (Below.refl _ _) (.cells #[.slice A1 n1 c1, .slice A3 n3 c3] 23))).below HB5.out) HN3.out hm3 ((HA3.out.below (allocB (Below.refl _ _) (.cells #[.slice A1 n1 c1, .slice A3 n3 c3] 23))).below HB5.out) HZ1.out HZ3.out).mono ?_
                      rintro e w6 ⟨B6, d6, rfl, _, hb6⟩
                      have HLV := Lib.hid (pollB_last (M := M) (S := S) (L := L) (K := K) (T := -1) (E := -1) hM hS (inB_more hK) (by decide) (inB_more hL1) (by decide) (by simp) HEV2.out.1 HEV2.out.2)
                      go_wp2_with fail
                      go_ret
                      exact ⟨ret_bool (by rw [HLV.out]; exact decide_eq_decide.2 (by omega)), seqB hb5 hb6⟩
                · have hE' : (E != -1) = true := by simpa using hE
                  have hE2 : (E == -1) = false := by simpa using hE
                  cases hE1 : inB E 0 999 with
                  | false =>
                    have bM := Lib.hid (bitC M true (w.alloc (.cells #[.int .i64 M, .slice A1 n1 c1, .int .i64 S, .slice A3 n3 c3, .int .i64 L, .int .i64 K, .int .i64 (-1), .int .i64 E] 25)) hM)
                    have bS := Lib.hid (bitC S true (w.alloc (.cells #[.int .i64 M, .slice A1 n1 c1, .int .i64 S, .slice A3 n3 c3, .int .i64 L, .int .i64 K, .int .i64 (-1), .int .i64 E] 25)) hS)
                    have bK := Lib.hid (bitC K true (w.alloc (.cells #[.int .i64 M, .slice A1 n1 c1, .int .i64 S, .slice A3 n3 c3, .int .i64 L, .int .i64 K, .int .i64 (-1), .int .i64 E] 25)) hK)
                    have pL := Lib.hid (pvC L true (w.alloc (.cells #[.int .i64 M, .slice A1 n1 c1, .int .i64 S, .slice A3 n3 c3, .int .i64 L, .int .i64 K, .int .i64 (-1), .int .i64 E] 25)) hL1)
                    have pE := Lib.hid (pvC E false (w.alloc (.cells #[.int .i64 M, .slice A1 n1 c1, .int .i64 S, .slice A3 n3 c3, .int .i64 L, .int .i64 K, .int .i64 (-1), .int .i64 E] 25)) hE1)
                    have hx : inB E (-1) 999 = false := inB_no (by have := (inB_not E 0 999).1 hE1; omega)
                    go_enter Tryd.func6, Tryd.ntmps6
                    go_wp2_with (first | (go_at_call 16; first | (refine Calls.mono (by with_reducible exact bM.out) ?_; rintro e w' ⟨rfl, rfl⟩) | (refine Calls.mono (by with_reducible exact bS.out) ?_; rintro e w' ⟨rfl, rfl⟩) | (refine Calls.mono (by with_reducible exact bK.out) ?_; rintro e w' ⟨rfl, rfl⟩)) | (go_at_call 17; first | (refine Calls.mono (by with_reducible exact pL.out) ?_; rintro e w' ⟨rfl, rfl⟩) | (refine Calls.mono (by with_reducible exact pE.out) ?_; rintro e w' ⟨rfl, rfl⟩)))
                    go_ret
                    exact ⟨ret_bool (by simp [pollB, hx]), hb⟩
                  | true =>
                    have bM := Lib.hid (bitC M true (w.alloc (.cells #[.int .i64 M, .slice A1 n1 c1, .int .i64 S, .slice A3 n3 c3, .int .i64 L, .int .i64 K, .int .i64 (-1), .int .i64 E] 25)) hM)
                    have bS := Lib.hid (bitC S true (w.alloc (.cells #[.int .i64 M, .slice A1 n1 c1, .int .i64 S, .slice A3 n3 c3, .int .i64 L, .int .i64 K, .int .i64 (-1), .int .i64 E] 25)) hS)
                    have bK := Lib.hid (bitC K true (w.alloc (.cells #[.int .i64 M, .slice A1 n1 c1, .int .i64 S, .slice A3 n3 c3, .int .i64 L, .int .i64 K, .int .i64 (-1), .int .i64 E] 25)) hK)
                    have pL := Lib.hid (pvC L true (w.alloc (.cells #[.int .i64 M, .slice A1 n1 c1, .int .i64 S, .slice A3 n3 c3, .int .i64 L, .int .i64 K, .int .i64 (-1), .int .i64 E] 25)) hL1)
                    have pE := Lib.hid (pvC E true (w.alloc (.cells #[.int .i64 M, .slice A1 n1 c1, .int .i64 S, .slice A3 n3 c3, .int .i64 L, .int .i64 K, .int .i64 (-1), .int .i64 E] 25)) hE1)
                    go_enter Tryd.func6, Tryd.ntmps6
                    go_wp2_with (first | (go_at_call 16; first | (refine Calls.mono (by with_reducible exact bM.out) ?_; rintro e w' ⟨rfl, rfl⟩) | (refine Calls.mono (by with_reducible exact bS.out) ?_; rintro e w' ⟨rfl, rfl⟩) | (refine Calls.mono (by with_reducible exact bK.out) ?_; rintro e w' ⟨rfl, rfl⟩)) | (go_at_call 17; first | (refine Calls.mono (by with_reducible exact pL.out) ?_; rintro e w' ⟨rfl, rfl⟩) | (refine Calls.mono (by with_reducible exact pE.out) ?_; rintro e w' ⟨rfl, rfl⟩)))
                    go_ret
                    exact ⟨ret_bool (by simp [pollB, hE2]), hb⟩
          · have hT' : (T != -1) = true := by simpa using hT
            have hT2 : (T == -1) = false := by simpa using hT
            cases hT1 : inB T 0 1 with
            | false =>
              have bM := Lib.hid (bitC M true (w.alloc (.cells #[.int .i64 M, .slice A1 n1 c1, .int .i64 S, .slice A3 n3 c3, .int .i64 L, .int .i64 K, .int .i64 T, .int .i64 E] 25)) hM)
              have bS := Lib.hid (bitC S true (w.alloc (.cells #[.int .i64 M, .slice A1 n1 c1, .int .i64 S, .slice A3 n3 c3, .int .i64 L, .int .i64 K, .int .i64 T, .int .i64 E] 25)) hS)
              have bK := Lib.hid (bitC K true (w.alloc (.cells #[.int .i64 M, .slice A1 n1 c1, .int .i64 S, .slice A3 n3 c3, .int .i64 L, .int .i64 K, .int .i64 T, .int .i64 E] 25)) hK)
              have bT := Lib.hid (bitC T false (w.alloc (.cells #[.int .i64 M, .slice A1 n1 c1, .int .i64 S, .slice A3 n3 c3, .int .i64 L, .int .i64 K, .int .i64 T, .int .i64 E] 25)) hT1)
              have hx : inB T (-1) 1 = false := inB_no (by have := (inB_not T 0 1).1 hT1; omega)
              go_enter Tryd.func6, Tryd.ntmps6
              go_wp2_with (first | (go_at_call 16; first | (refine Calls.mono (by with_reducible exact bM.out) ?_; rintro e w' ⟨rfl, rfl⟩) | (refine Calls.mono (by with_reducible exact bS.out) ?_; rintro e w' ⟨rfl, rfl⟩) | (refine Calls.mono (by with_reducible exact bK.out) ?_; rintro e w' ⟨rfl, rfl⟩) | (refine Calls.mono (by with_reducible exact bT.out) ?_; rintro e w' ⟨rfl, rfl⟩)))
              go_ret
              exact ⟨ret_bool (by simp [pollB, hx]), hb⟩
            | true =>
              by_cases hL : L = -1
              · subst hL
                by_cases hE : E = -1
                · subst hE
                  have bM := Lib.hid (bitC M true (w.alloc (.cells #[.int .i64 M, .slice A1 n1 c1, .int .i64 S, .slice A3 n3 c3, .int .i64 (-1), .int .i64 K, .int .i64 T, .int .i64 (-1)] 25)) hM)
                  have bS := Lib.hid (bitC S true (w.alloc (.cells #[.int .i64 M, .slice A1 n1 c1, .int .i64 S, .slice A3 n3 c3, .int .i64 (-1), .int .i64 K, .int .i64 T, .int .i64 (-1)] 25)) hS)
                  have bK := Lib.hid (bitC K true (w.alloc (.cells #[.int .i64 M, .slice A1 n1 c1, .int .i64 S, .slice A3 n3 c3, .int .i64 (-1), .int .i64 K, .int .i64 T, .int .i64 (-1)] 25)) hK)
                  have bT := Lib.hid (bitC T true (w.alloc (.cells #[.int .i64 M, .slice A1 n1 c1, .int .i64 S, .slice A3 n3 c3, .int .i64 (-1), .int .i64 K, .int .i64 T, .int .i64 (-1)] 25)) hT1)
                  go_enter Tryd.func6, Tryd.ntmps6
                  go_wp2_with (first | (go_at_call 16; first | (refine Calls.mono (by with_reducible exact bM.out) ?_; rintro e w' ⟨rfl, rfl⟩) | (refine Calls.mono (by with_reducible exact bS.out) ?_; rintro e w' ⟨rfl, rfl⟩) | (refine Calls.mono (by with_reducible exact bK.out) ?_; rintro e w' ⟨rfl, rfl⟩) | (refine Calls.mono (by with_reducible exact bT.out) ?_; rintro e w' ⟨rfl, rfl⟩)))
                  have hbl : Below w.heap.size w ((w.alloc (.cells #[.int .i64 M, .slice A1 n1 c1, .int .i64 S, .slice A3 n3 c3, .int .i64 (-1), .int .i64 K, .int .i64 T, .int .i64 (-1)] 25)).alloc (.cells #[.slice A1 n1 c1, .slice A3 n3 c3] 23)) := allocB hb _
                  refine (concatC _ 2 2 [⟨A1, c1, G⟩, ⟨A3, c3, Q⟩] _ rfl (by omega) (by rw [HCS.out, List.length_append, HN1.out, HN3.out]; omega) (by rw [HFS.out]; have := rd_new (w.alloc (.cells #[.int .i64 M, .slice A1 n1 c1, .int .i64 S, .slice A3 n3 c3, .int .i64 (-1), .int .i64 K, .int .i64 T, .int .i64 (-1)] 25)) #[.slice A1 n1 c1, .slice A3 n3 c3] 23; simpa using this) (fun k hk => ?_) (fun k hk => ?_)).mono ?_
                  · match k, hk with
                    | 0, _ => exact HA1.out.below (allocB (Below.refl _ _) _)
                    | 1, _ => exact HA3.out.below (allocB (Below.refl _ _) _)
                  · match k, hk with
                    | 0, _ => exact fun e => by have := HZ1.out e; exact ⟨by simpa [HN1.out] using this.1, this.2⟩
                    | 1, _ => exact fun e => by have := HZ3.out e; exact ⟨by simpa [HN3.out] using this.1, this.2⟩
                  rintro e w5 ⟨B5, d5, rfl, hr5, hb5⟩
                  rw [HCS.out] at hr5 ⊢
                  have HCB := Lib.hid (evB_app G Q)
                  have HCL : Hid ((G ++ Q).length = n1 + n3) := by rw [Hid, List.length_append, HN1.out, HN3.out]
                  generalize G ++ Q = CS at *
                  generalize hN : CS.length = N at *
                  have HCN := Lib.hid hN; clear hN
                  have hNb : N ≤ 2097152 := by have := HCL.out; omega
                  have HRW := Lib.hid (rd_of_row hr5)
                  clear hr5
                  have BX := be_box (be_box hbox (allocB (Below.refl _ _) (.cells #[.slice A1 n1 c1, .slice A3 n3 c3] 23))) hb5
                  have HB5 := Lib.hid hb5
                  replace hb5 := seqB hbl hb5
                  go_wp2_with fail
                  go_loop [69] (fun i => ∃ k : Nat, k ≤ N ∧ i = .int .i64 k ∧ Hid (evB (CS.take k) = true)) (fun i => N - (intOf i).toNat)
                  case atStart => exact ⟨0, by omega, rfl, by simp [Hid, evB]⟩
                  case round =>
                    obtain ⟨k, hk, rfl, hp⟩ := hrel
                    by_cases hlt : k < N
                    · obtain ⟨b, o, rfl, _, hc⟩ := HRW.out.int (k := k) (by rw [HCN.out]; exact hlt)
                      have HK : Hid (k < CS.length) := by rw [Hid, HCN.out]; exact hlt
                      have hki : (k : Int) < (N : Int) := by omega
                      cases hx : inB (CS.getD k 0) 0 999 with
                      | false =>
                        have HE := Lib.hid (evB_no HK.out hx)
                        have h2 : evB G = false ∨ evB Q = false := by have h1 := HCB.out; rw [HE.out] at h1; revert h1; cases evB G <;> cases evB Q <;> simp
                        have HPV : Hid (pollB M S (-1) K T (-1) G Q = false) := by rcases h2 with h | h <;> simp [Hid, pollB, h]
                        clear h2
                        generalize CS.getD k 0 = x at *
                        go_wp2_with (go_at_call 17; refine (pvC x false _ hx).mono ?_; rintro e w' ⟨rfl, rfl⟩)
                        go_ret
                        exact ⟨ret_bool HPV.out.symm, hb5⟩
                      | true =>
                        have HE := Lib.hid (evB_succ HK.out hp.out hx)
                        generalize CS.getD k 0 = x at *
                        go_wp2_with (go_at_call 17; refine (pvC x true _ hx).mono ?_; rintro e w' ⟨rfl, rfl⟩)
                        go_round
                        case rel => exact ⟨k + 1, by omega, by go_num, HE.out⟩
                        case measure => simp [intOf]; omega
                    · have hki : ¬ ((k : Int) < (N : Int)) := by omega
                      have HEV : evB G = true ∧ evB Q = true := by have h1 := HCB.out; rw [← List.take_of_length_le (l := CS) (i := k) (by rw [HCN.out]; omega), hp.out] at h1; revert h1; cases evB G <;> cases evB Q <;> simp
                      have HEV2 := Lib.hid HEV; clear HEV hp
                      have g0 : w5.cell? ⟨w.heap.size, 0, none⟩ = some (.int .i64 M) := box_cell BX 0
                      have g1 : w5.cell? ⟨w.heap.size, 1, none⟩ = some (.slice A1 n1 c1) := box_cell BX 1
                      have g2 : w5.cell? ⟨w.heap.size, 2, none⟩ = some (.int .i64 S) := box_cell BX 2
                      have g3 : w5.cell? ⟨w.heap.size, 3, none⟩ = some (.slice A3 n3 c3) := box_cell BX 3
                      have g4 : w5.cell? ⟨w.heap.size, 4, none⟩ = some (.int .i64 (-1)) := box_cell BX 4
                      have g5 : w5.cell? ⟨w.heap.size, 5, none⟩ = some (.int .i64 K) := box_cell BX 5
                      have g6 : w5.cell? ⟨w.heap.size, 6, none⟩ = some (.int .i64 T) := box_cell BX 6
                      have g7 : w5.cell? ⟨w.heap.size, 7, none⟩ = some (.int .i64 (-1)) := box_cell BX 7
                      go_wp2_with fail
                      refine (eventsC M A1 n1 c1 G S A3 n3 c3 Q (-1) K T (-1) _ HN1.out hm1 ((HA1.out.below (allocB (Below.refl _ _) (.cells #[.slice A1 n1 c1, .slice A3 n3 c3] 23))).below HB5.out) HN3.out hm3 ((HA3.out.below (allocB (Below.refl _ _) (.cells #[.slice A1 n1 c1, .slice A3 n3 c3] 23))).below HB5.out) HZ1.out HZ3.out).mono ?_
                      rintro e w6 ⟨B6, d6, rfl, _, hb6⟩
                      have HLV := Lib.hid (pollB_last (M := M) (S := S) (L := -1) (K := K) (T := T) (E := -1) hM hS (inB_more hK) (inB_more hT1) (by decide) (by decide) (by simp) HEV2.out.1 HEV2.out.2)
                      go_wp2_with fail
                      go_ret
                      exact ⟨ret_bool (by rw [HLV.out]; exact decide_eq_decide.2 (by omega)), seqB hb5 hb6⟩
                · have hE' : (E != -1) = true := by simpa using hE
                  have hE2 : (E == -1) = false := by simpa using hE
                  cases hE1 : inB E 0 999 with
                  | false =>
                    have bM := Lib.hid (bitC M true (w.alloc (.cells #[.int .i64 M, .slice A1 n1 c1, .int .i64 S, .slice A3 n3 c3, .int .i64 (-1), .int .i64 K, .int .i64 T, .int .i64 E] 25)) hM)
                    have bS := Lib.hid (bitC S true (w.alloc (.cells #[.int .i64 M, .slice A1 n1 c1, .int .i64 S, .slice A3 n3 c3, .int .i64 (-1), .int .i64 K, .int .i64 T, .int .i64 E] 25)) hS)
                    have bK := Lib.hid (bitC K true (w.alloc (.cells #[.int .i64 M, .slice A1 n1 c1, .int .i64 S, .slice A3 n3 c3, .int .i64 (-1), .int .i64 K, .int .i64 T, .int .i64 E] 25)) hK)
                    have bT := Lib.hid (bitC T true (w.alloc (.cells #[.int .i64 M, .slice A1 n1 c1, .int .i64 S, .slice A3 n3 c3, .int .i64 (-1), .int .i64 K, .int .i64 T, .int .i64 E] 25)) hT1)
                    have pE := Lib.hid (pvC E false (w.alloc (.cells #[.int .i64 M, .slice A1 n1 c1, .int .i64 S, .slice A3 n3 c3, .int .i64 (-1), .int .i64 K, .int .i64 T, .int .i64 E] 25)) hE1)
                    have hx : inB E (-1) 999 = false := inB_no (by have := (inB_not E 0 999).1 hE1; omega)
                    go_enter Tryd.func6, Tryd.ntmps6
                    go_wp2_with (first | (go_at_call 16; first | (refine Calls.mono (by with_reducible exact bM.out) ?_; rintro e w' ⟨rfl, rfl⟩) | (refine Calls.mono (by with_reducible exact bS.out) ?_; rintro e w' ⟨rfl, rfl⟩) | (refine Calls.mono (by with_reducible exact bK.out) ?_; rintro e w' ⟨rfl, rfl⟩) | (refine Calls.mono (by with_reducible exact bT.out) ?_; rintro e w' ⟨rfl, rfl⟩)) | (go_at_call 17; first | (refine Calls.mono (by with_reducible exact pE.out) ?_; rintro e w' ⟨rfl, rfl⟩)))
                    go_ret
                    exact ⟨ret_bool (by simp [pollB, hx]), hb⟩
                  | true =>
                    have bM := Lib.hid (bitC M true (w.alloc (.cells #[.int .i64 M, .slice A1 n1 c1, .int .i64 S, .slice A3 n3 c3, .int .i64 (-1), .int .i64 K, .int .i64 T, .int .i64 E] 25)) hM)
                    have bS := Lib.hid (bitC S true (w.alloc (.cells #[.int .i64 M, .slice A1 n1 c1, .int .i64 S, .slice A3 n3 c3, .int .i64 (-1), .int .i64 K, .int .i64 T, .int .i64 E] 25)) hS)
                    have bK := Lib.hid (bitC K true (w.alloc (.cells #[.int .i64 M, .slice A1 n1 c1, .int .i64 S, .slice A3 n3 c3, .int .i64 (-1), .int .i64 K, .int .i64 T, .int .i64 E] 25)) hK)
                    have bT := Lib.hid (bitC T true (w.alloc (.cells #[.int .i64 M, .slice A1 n1 c1, .int .i64 S, .slice A3 n3 c3, .int .i64 (-1), .int .i64 K, .int .i64 T, .int .i64 E] 25)) hT1)
                    have pE := Lib.hid (pvC E true (w.alloc (.cells #[.int .i64 M, .slice A1 n1 c1, .int .i64 S, .slice A3 n3 c3, .int .i64 (-1), .int .i64 K, .int .i64 T, .int .i64 E] 25)) hE1)
                    go_enter Tryd.func6, Tryd.ntmps6
                    go_wp2_with (first | (go_at_call 16; first | (refine Calls.mono (by with_reducible exact bM.out) ?_; rintro e w' ⟨rfl, rfl⟩) | (refine Calls.mono (by with_reducible exact bS.out) ?_; rintro e w' ⟨rfl, rfl⟩) | (refine Calls.mono (by with_reducible exact bK.out) ?_; rintro e w' ⟨rfl, rfl⟩) | (refine Calls.mono (by with_reducible exact bT.out) ?_; rintro e w' ⟨rfl, rfl⟩)) | (go_at_call 17; first | (refine Calls.mono (by with_reducible exact pE.out) ?_; rintro e w' ⟨rfl, rfl⟩)))
                    have hbl : Below w.heap.size w ((w.alloc (.cells #[.int .i64 M, .slice A1 n1 c1, .int .i64 S, .slice A3 n3 c3, .int .i64 (-1), .int .i64 K, .int .i64 T, .int .i64 E] 25)).alloc (.cells #[.slice A1 n1 c1, .slice A3 n3 c3] 23)) := allocB hb _
                    refine (concatC _ 2 2 [⟨A1, c1, G⟩, ⟨A3, c3, Q⟩] _ rfl (by omega) (by rw [HCS.out, List.length_append, HN1.out, HN3.out]; omega) (by rw [HFS.out]; have := rd_new (w.alloc (.cells #[.int .i64 M, .slice A1 n1 c1, .int .i64 S, .slice A3 n3 c3, .int .i64 (-1), .int .i64 K, .int .i64 T, .int .i64 E] 25)) #[.slice A1 n1 c1, .slice A3 n3 c3] 23; simpa using this) (fun k hk => ?_) (fun k hk => ?_)).mono ?_
                    · match k, hk with
                      | 0, _ => exact HA1.out.below (allocB (Below.refl _ _) _)
                      | 1, _ => exact HA3.out.below (allocB (Below.refl _ _) _)
                    · match k, hk with
                      | 0, _ => exact fun e => by have := HZ1.out e; exact ⟨by simpa [HN1.out] using this.1, this.2⟩
                      | 1, _ => exact fun e => by have := HZ3.out e; exact ⟨by simpa [HN3.out] using this.1, this.2⟩
                    rintro e w5 ⟨B5, d5, rfl, hr5, hb5⟩
                    rw [HCS.out] at hr5 ⊢
                    have HCB := Lib.hid (evB_app G Q)
                    have HCL : Hid ((G ++ Q).length = n1 + n3) := by rw [Hid, List.length_append, HN1.out, HN3.out]
                    generalize G ++ Q = CS at *
                    generalize hN : CS.length = N at *
                    have HCN := Lib.hid hN; clear hN
                    have hNb : N ≤ 2097152 := by have := HCL.out; omega
                    have HRW := Lib.hid (rd_of_row hr5)
                    clear hr5
                    have BX := be_box (be_box hbox (allocB (Below.refl _ _) (.cells #[.slice A1 n1 c1, .slice A3 n3 c3] 23))) hb5
                    have HB5 := Lib.hid hb5
                    replace hb5 := seqB hbl hb5
                    go_wp2_with fail
                    go_loop [69] (fun i => ∃ k : Nat, k ≤ N ∧ i = .int .i64 k ∧ Hid (evB (CS.take k) = true)) (fun i => N - (intOf i).toNat)
                    case atStart => exact ⟨0, by omega, rfl, by simp [Hid, evB]⟩
                    case round =>
                      obtain ⟨k, hk, rfl, hp⟩ := hrel
                      by_cases hlt : k < N
                      · obtain ⟨b, o, rfl, _, hc⟩ := HRW.out.int (k := k) (by rw [HCN.out]; exact hlt)
                        have HK : Hid (k < CS.length) := by rw [Hid, HCN.out]; exact hlt
                        have hki : (k : Int) < (N : Int) := by omega
                        cases hx : inB (CS.getD k 0) 0 999 with
                        | false =>
                          have HE := Lib.hid (evB_no HK.out hx)
                          have h2 : evB G = false ∨ evB Q = false := by have h1 := HCB.out; rw [HE.out] at h1; revert h1; cases evB G <;> cases evB Q <;> simp
                          have HPV : Hid (pollB M S (-1) K T E G Q = false) := by rcases h2 with h | h <;> simp [Hid, pollB, h]
                          clear h2
                          generalize CS.getD k 0 = x at *
                          go_wp2_with (go_at_call 17; refine (pvC x false _ hx).mono ?_; rintro e w' ⟨rfl, rfl⟩)
                          go_ret
                          exact ⟨ret_bool HPV.out.symm, hb5⟩
                        | true =>
                          have HE := Lib.hid (evB_succ HK.out hp.out hx)
                          generalize CS.getD k 0 = x at *
                          go_wp2_with (go_at_call 17; refine (pvC x true _ hx).mono ?_; rintro e w' ⟨rfl, rfl⟩)
                          go_round
                          case rel => exact ⟨k + 1, by omega, by go_num, HE.out⟩
                          case measure => simp [intOf]; omega
                      · have hki : ¬ ((k : Int) < (N : Int)) := by omega
                        have HEV : evB G = true ∧ evB Q = true := by have h1 := HCB.out; rw [← List.take_of_length_le (l := CS) (i := k) (by rw [HCN.out]; omega), hp.out] at h1; revert h1; cases evB G <;> cases evB Q <;> simp
                        have HEV2 := Lib.hid HEV; clear HEV hp
                        have g0 : w5.cell? ⟨w.heap.size, 0, none⟩ = some (.int .i64 M) := box_cell BX 0
                        have g1 : w5.cell? ⟨w.heap.size, 1, none⟩ = some (.slice A1 n1 c1) := box_cell BX 1
                        have g2 : w5.cell? ⟨w.heap.size, 2, none⟩ = some (.int .i64 S) := box_cell BX 2
                        have g3 : w5.cell? ⟨w.heap.size, 3, none⟩ = some (.slice A3 n3 c3) := box_cell BX 3
                        have g4 : w5.cell? ⟨w.heap.size, 4, none⟩ = some (.int .i64 (-1)) := box_cell BX 4
                        have g5 : w5.cell? ⟨w.heap.size, 5, none⟩ = some (.int .i64 K) := box_cell BX 5
                        have g6 : w5.cell? ⟨w.heap.size, 6, none⟩ = some (.int .i64 T) := box_cell BX 6
                        have g7 : w5.cell? ⟨w.heap.size, 7, none⟩ = some (.int .i64 E) := box_cell BX 7
                        go_wp2_with fail
                        refine (eventsC M A1 n1 c1 G S A3 n3 c3 Q (-1) K T E _ HN1.out hm1 ((HA1.out.below (allocB (Below.refl _ _) (.cells #[.slice A1 n1 c1, .slice A3 n3 c3] 23))).below HB5.out) HN3.out hm3 ((HA3.out.below (allocB (Below.refl _ _) (.cells #[.slice A1 n1 c1, .slice A3 n3 c3] 23))).below HB5.out) HZ1.out HZ3.out).mono ?_
                        rintro e w6 ⟨B6, d6, rfl, _, hb6⟩
                        have HLV := Lib.hid (pollB_last (M := M) (S := S) (L := -1) (K := K) (T := T) (E := E) hM hS (inB_more hK) (inB_more hT1) (by decide) (inB_more hE1) (by have := (inB_iff T 0 1).1 hT1; simp [this.1]) HEV2.out.1 HEV2.out.2)
                        go_wp2_with fail
                        go_ret
                        exact ⟨ret_bool (by rw [HLV.out]; exact decide_eq_decide.2 (by omega)), seqB hb5 hb6⟩
              · have hL' : (L != -1) = true := by simpa using hL
                cases hL1 : inB L 0 999 with
                | false =>
                  have bM := Lib.hid (bitC M true (w.alloc (.cells #[.int .i64 M, .slice A1 n1 c1, .int .i64 S, .slice A3 n3 c3, .int .i64 L, .int .i64 K, .int .i64 T, .int .i64 E] 25)) hM)
                  have bS := Lib.hid (bitC S true (w.alloc (.cells #[.int .i64 M, .slice A1 n1 c1, .int .i64 S, .slice A3 n3 c3, .int .i64 L, .int .i64 K, .int .i64 T, .int .i64 E] 25)) hS)
                  have bK := Lib.hid (bitC K true (w.alloc (.cells #[.int .i64 M, .slice A1 n1 c1, .int .i64 S, .slice A3 n3 c3, .int .i64 L, .int .i64 K, .int .i64 T, .int .i64 E] 25)) hK)
                  have bT := Lib.hid (bitC T true (w.alloc (.cells #[.int .i64 M, .slice A1 n1 c1, .int .i64 S, .slice A3 n3 c3, .int .i64 L, .int .i64 K, .int .i64 T, .int .i64 E] 25)) hT1)
                  have pL := Lib.hid (pvC L false (w.alloc (.cells #[.int .i64 M, .slice A1 n1 c1, .int .i64 S, .slice A3 n3 c3, .int .i64 L, .int .i64 K, .int .i64 T, .int .i64 E] 25)) hL1)
                  have hx : inB L (-1) 999 = false := inB_no (by have := (inB_not L 0 999).1 hL1; omega)
                  go_enter Tryd.func6, Tryd.ntmps6
                  go_wp2_with (first | (go_at_call 16; first | (refine Calls.mono (by with_reducible exact bM.out) ?_; rintro e w' ⟨rfl, rfl⟩) | (refine Calls.mono (by with_reducible exact bS.out) ?_; rintro e w' ⟨rfl, rfl⟩) | (refine Calls.mono (by with_reducible exact bK.out) ?_; rintro e w' ⟨rfl, rfl⟩) | (refine Calls.mono (by with_reducible exact bT.out) ?_; rintro e w' ⟨rfl, rfl⟩)) | (go_at_call 17; first | (refine Calls.mono (by with_reducible exact pL.out) ?_; rintro e w' ⟨rfl, rfl⟩)))
                  go_ret
                  exact ⟨ret_bool (by simp [pollB, hx]), hb⟩
                | true =>
                  by_cases hE : E = -1
                  · subst hE
                    have bM := Lib.hid (bitC M true (w.alloc (.cells #[.int .i64 M, .slice A1 n1 c1, .int .i64 S, .slice A3 n3 c3, .int .i64 L, .int .i64 K, .int .i64 T, .int .i64 (-1)] 25)) hM)
                    have bS := Lib.hid (bitC S true (w.alloc (.cells #[.int .i64 M, .slice A1 n1 c1, .int .i64 S, .slice A3 n3 c3, .int .i64 L, .int .i64 K, .int .i64 T, .int .i64 (-1)] 25)) hS)
                    have bK := Lib.hid (bitC K true (w.alloc (.cells #[.int .i64 M, .slice A1 n1 c1, .int .i64 S, .slice A3 n3 c3, .int .i64 L, .int .i64 K, .int .i64 T, .int .i64 (-1)] 25)) hK)
                    have bT := Lib.hid (bitC T true (w.alloc (.cells #[.int .i64 M, .slice A1 n1 c1, .int .i64 S, .slice A3 n3 c3, .int .i64 L, .int .i64 K, .int .i64 T, .int .i64 (-1)] 25)) hT1)
                    have pL := Lib.hid (pvC L true (w.alloc (.cells #[.int .i64 M, .slice A1 n1 c1, .int .i64 S, .slice A3 n3 c3, .int .i64 L, .int .i64 K, .int .i64 T, .int .i64 (-1)] 25)) hL1)
                    go_enter Tryd.func6, Tryd.ntmps6
                    go_wp2_with (first | (go_at_call 16; first | (refine Calls.mono (by with_reducible exact bM.out) ?_; rintro e w' ⟨rfl, rfl⟩) | (refine Calls.mono (by with_reducible exact bS.out) ?_; rintro e w' ⟨rfl, rfl⟩) | (refine Calls.mono (by with_reducible exact bK.out) ?_; rintro e w' ⟨rfl, rfl⟩) | (refine Calls.mono (by with_reducible exact bT.out) ?_; rintro e w' ⟨rfl, rfl⟩)) | (go_at_call 17; first | (refine Calls.mono (by with_reducible exact pL.out) ?_; rintro e w' ⟨rfl, rfl⟩)))
                    have hbl : Below w.heap.size w ((w.alloc (.cells #[.int .i64 M, .slice A1 n1 c1, .int .i64 S, .slice A3 n3 c3, .int .i64 L, .int .i64 K, .int .i64 T, .int .i64 (-1)] 25)).alloc (.cells #[.slice A1 n1 c1, .slice A3 n3 c3] 23)) := allocB hb _
                    refine (concatC _ 2 2 [⟨A1, c1, G⟩, ⟨A3, c3, Q⟩] _ rfl (by omega) (by rw [HCS.out, List.length_append, HN1.out, HN3.out]; omega) (by rw [HFS.out]; have := rd_new (w.alloc (.cells #[.int .i64 M, .slice A1 n1 c1, .int .i64 S, .slice A3 n3 c3, .int .i64 L, .int .i64 K, .int .i64 T, .int .i64 (-1)] 25)) #[.slice A1 n1 c1, .slice A3 n3 c3] 23; simpa using this) (fun k hk => ?_) (fun k hk => ?_)).mono ?_
                    · match k, hk with
                      | 0, _ => exact HA1.out.below (allocB (Below.refl _ _) _)
                      | 1, _ => exact HA3.out.below (allocB (Below.refl _ _) _)
                    · match k, hk with
                      | 0, _ => exact fun e => by have := HZ1.out e; exact ⟨by simpa [HN1.out] using this.1, this.2⟩
                      | 1, _ => exact fun e => by have := HZ3.out e; exact ⟨by simpa [HN3.out] using this.1, this.2⟩
                    rintro e w5 ⟨B5, d5, rfl, hr5, hb5⟩
                    rw [HCS.out] at hr5 ⊢
                    have HCB := Lib.hid (evB_app G Q)
                    have HCL : Hid ((G ++ Q).length = n1 + n3) := by rw [Hid, List.length_append, HN1.out, HN3.out]
                    generalize G ++ Q = CS at *
                    generalize hN : CS.length = N at *
                    have HCN := Lib.hid hN; clear hN
                    have hNb : N ≤ 2097152 := by have := HCL.out; omega
                    have HRW := Lib.hid (rd_of_row hr5)
                    clear hr5
                    have BX := be_box (be_box hbox (allocB (Below.refl _ _) (.cells #[.slice A1 n1 c1, .slice A3 n3 c3] 23))) hb5
                    have HB5 := Lib.hid hb5
                    replace hb5 := seqB hbl hb5
                    go_wp2_with fail
                    go_loop [69] (fun i => ∃ k : Nat, k ≤ N ∧ i = .int .i64 k ∧ Hid (evB (CS.take k) = true)) (fun i => N - (intOf i).toNat)
                    case atStart => exact ⟨0, by omega, rfl, by simp [Hid, evB]⟩
                    case round =>
                      obtain ⟨k, hk, rfl, hp⟩ := hrel
                      by_cases hlt : k < N
                      · obtain ⟨b, o, rfl, _, hc⟩ := HRW.out.int (k := k) (by rw [HCN.out]; exact hlt)
                        have HK : Hid (k < CS.length) := by rw [Hid, HCN.out]; exact hlt
                        have hki : (k : Int) < (N : Int) := by omega
                        cases hx : inB (CS.getD k 0) 0 999 with
                        | false =>
                          have HE := Lib.hid (evB_no HK.out hx)
                          have h2 : evB G = false ∨ evB Q = false := by have h1 := HCB.out; rw [HE.out] at h1; revert h1; cases evB G <;> cases evB Q <;> simp
                          have HPV : Hid (pollB M S L K T (-1) G Q = false) := by rcases h2 with h | h <;> simp [Hid, pollB, h]
                          clear h2
                          generalize CS.getD k 0 = x at *
                          go_wp2_with (go_at_call 17; refine (pvC x false _ hx).mono ?_; rintro e w' ⟨rfl, rfl⟩)
                          go_ret
                          exact ⟨ret_bool HPV.out.symm, hb5⟩
                        | true =>
                          have HE := Lib.hid (evB_succ HK.out hp.out hx)
                          generalize CS.getD k 0 = x at *
                          go_wp2_with (go_at_call 17; refine (pvC x true _ hx).mono ?_; rintro e w' ⟨rfl, rfl⟩)
                          go_round
                          case rel => exact ⟨k + 1, by omega, by go_num, HE.out⟩
                          case measure => simp [intOf]; omega
                      · have hki : ¬ ((k : Int) < (N : Int)) := by omega
                        have HEV : evB G = true ∧ evB Q = true := by have h1 := HCB.out; rw [← List.take_of_length_le (l := CS) (i := k) (by rw [HCN.out]; omega), hp.out] at h1; revert h1; cases evB G <;> cases evB Q <;> simp
                        have HEV2 := Lib.hid HEV; clear HEV hp
                        have g0 : w5.cell? ⟨w.heap.size, 0, none⟩ = some (.int .i64 M) := box_cell BX 0
                        have g1 : w5.cell? ⟨w.heap.size, 1, none⟩ = some (.slice A1 n1 c1) := box_cell BX 1
                        have g2 : w5.cell? ⟨w.heap.size, 2, none⟩ = some (.int .i64 S) := box_cell BX 2
                        have g3 : w5.cell? ⟨w.heap.size, 3, none⟩ = some (.slice A3 n3 c3) := box_cell BX 3
                        have g4 : w5.cell? ⟨w.heap.size, 4, none⟩ = some (.int .i64 L) := box_cell BX 4
                        have g5 : w5.cell? ⟨w.heap.size, 5, none⟩ = some (.int .i64 K) := box_cell BX 5
                        have g6 : w5.cell? ⟨w.heap.size, 6, none⟩ = some (.int .i64 T) := box_cell BX 6
                        have g7 : w5.cell? ⟨w.heap.size, 7, none⟩ = some (.int .i64 (-1)) := box_cell BX 7
                        go_wp2_with fail
                        refine (eventsC M A1 n1 c1 G S A3 n3 c3 Q L K T (-1) _ HN1.out hm1 ((HA1.out.below (allocB (Below.refl _ _) (.cells #[.slice A1 n1 c1, .slice A3 n3 c3] 23))).below HB5.out) HN3.out hm3 ((HA3.out.below (allocB (Below.refl _ _) (.cells #[.slice A1 n1 c1, .slice A3 n3 c3] 23))).below HB5.out) HZ1.out HZ3.out).mono ?_
                        rintro e w6 ⟨B6, d6, rfl, _, hb6⟩
                        have HLV := Lib.hid (pollB_last (M := M) (S := S) (L := L) (K := K) (T := T) (E := -1) hM hS (inB_more hK) (inB_more hT1) (inB_more hL1) (by decide) (by simp) HEV2.out.1 HEV2.out.2)
                        go_wp2_with fail
                        go_ret
                        exact ⟨ret_bool (by rw [HLV.out]; exact decide_eq_decide.2 (by omega)), seqB hb5 hb6⟩
                  · have hE' : (E != -1) = true := by simpa using hE
                    have hE2 : (E == -1) = false := by simpa using hE
                    cases hE1 : inB E 0 999 with
                    | false =>
                      have bM := Lib.hid (bitC M true (w.alloc (.cells #[.int .i64 M, .slice A1 n1 c1, .int .i64 S, .slice A3 n3 c3, .int .i64 L, .int .i64 K, .int .i64 T, .int .i64 E] 25)) hM)
                      have bS := Lib.hid (bitC S true (w.alloc (.cells #[.int .i64 M, .slice A1 n1 c1, .int .i64 S, .slice A3 n3 c3, .int .i64 L, .int .i64 K, .int .i64 T, .int .i64 E] 25)) hS)
                      have bK := Lib.hid (bitC K true (w.alloc (.cells #[.int .i64 M, .slice A1 n1 c1, .int .i64 S, .slice A3 n3 c3, .int .i64 L, .int .i64 K, .int .i64 T, .int .i64 E] 25)) hK)
                      have bT := Lib.hid (bitC T true (w.alloc (.cells #[.int .i64 M, .slice A1 n1 c1, .int .i64 S, .slice A3 n3 c3, .int .i64 L, .int .i64 K, .int .i64 T, .int .i64 E] 25)) hT1)
                      have pL := Lib.hid (pvC L true (w.alloc (.cells #[.int .i64 M, .slice A1 n1 c1, .int .i64 S, .slice A3 n3 c3, .int .i64 L, .int .i64 K, .int .i64 T, .int .i64 E] 25)) hL1)
                      have pE := Lib.hid (pvC E false (w.alloc (.cells #[.int .i64 M, .slice A1 n1 c1, .int .i64 S, .slice A3 n3 c3, .int .i64 L, .int .i64 K, .int .i64 T, .int .i64 E] 25)) hE1)
                      have hx : inB E (-1) 999 = false := inB_no (by have := (inB_not E 0 999).1 hE1; omega)
                      go_enter Tryd.func6, Tryd.ntmps6
                      go_wp2_with (first | (go_at_call 16; first | (refine Calls.mono (by with_reducible exact bM.out) ?_; rintro e w' ⟨rfl, rfl⟩) | (refine Calls.mono (by with_reducible exact bS.out) ?_; rintro e w' ⟨rfl, rfl⟩) | (refine Calls.mono (by with_reducible exact bK.out) ?_; rintro e w' ⟨rfl, rfl⟩) | (refine Calls.mono (by with_reducible exact bT.out) ?_; rintro e w' ⟨rfl, rfl⟩)) | (go_at_call 17; first | (refine Calls.mono (by with_reducible exact pL.out) ?_; rintro e w' ⟨rfl, rfl⟩) | (refine Calls.mono (by with_reducible exact pE.out) ?_; rintro e w' ⟨rfl, rfl⟩)))
                      go_ret
                      exact ⟨ret_bool (by simp [pollB, hx]), hb⟩
                    | true =>
                      have bM := Lib.hid (bitC M true (w.alloc (.cells #[.int .i64 M, .slice A1 n1 c1, .int .i64 S, .slice A3 n3 c3, .int .i64 L, .int .i64 K, .int .i64 T, .int .i64 E] 25)) hM)
                      have bS := Lib.hid (bitC S true (w.alloc (.cells #[.int .i64 M, .slice A1 n1 c1, .int .i64 S, .slice A3 n3 c3, .int .i64 L, .int .i64 K, .int .i64 T, .int .i64 E] 25)) hS)
                      have bK := Lib.hid (bitC K true (w.alloc (.cells #[.int .i64 M, .slice A1 n1 c1, .int .i64 S, .slice A3 n3 c3, .int .i64 L, .int .i64 K, .int .i64 T, .int .i64 E] 25)) hK)
                      have bT := Lib.hid (bitC T true (w.alloc (.cells #[.int .i64 M, .slice A1 n1 c1, .int .i64 S, .slice A3 n3 c3, .int .i64 L, .int .i64 K, .int .i64 T, .int .i64 E] 25)) hT1)
                      have pL := Lib.hid (pvC L true (w.alloc (.cells #[.int .i64 M, .slice A1 n1 c1, .int .i64 S, .slice A3 n3 c3, .int .i64 L, .int .i64 K, .int .i64 T, .int .i64 E] 25)) hL1)
                      have pE := Lib.hid (pvC E true (w.alloc (.cells #[.int .i64 M, .slice A1 n1 c1, .int .i64 S, .slice A3 n3 c3, .int .i64 L, .int .i64 K, .int .i64 T, .int .i64 E] 25)) hE1)
                      go_enter Tryd.func6, Tryd.ntmps6
                      go_wp2_with (first | (go_at_call 16; first | (refine Calls.mono (by with_reducible exact bM.out) ?_; rintro e w' ⟨rfl, rfl⟩) | (refine Calls.mono (by with_reducible exact bS.out) ?_; rintro e w' ⟨rfl, rfl⟩) | (refine Calls.mono (by with_reducible exact bK.out) ?_; rintro e w' ⟨rfl, rfl⟩) | (refine Calls.mono (by with_reducible exact bT.out) ?_; rintro e w' ⟨rfl, rfl⟩)) | (go_at_call 17; first | (refine Calls.mono (by with_reducible exact pL.out) ?_; rintro e w' ⟨rfl, rfl⟩) | (refine Calls.mono (by with_reducible exact pE.out) ?_; rintro e w' ⟨rfl, rfl⟩)))
                      have hbl : Below w.heap.size w ((w.alloc (.cells #[.int .i64 M, .slice A1 n1 c1, .int .i64 S, .slice A3 n3 c3, .int .i64 L, .int .i64 K, .int .i64 T, .int .i64 E] 25)).alloc (.cells #[.slice A1 n1 c1, .slice A3 n3 c3] 23)) := allocB hb _
                      refine (concatC _ 2 2 [⟨A1, c1, G⟩, ⟨A3, c3, Q⟩] _ rfl (by omega) (by rw [HCS.out, List.length_append, HN1.out, HN3.out]; omega) (by rw [HFS.out]; have := rd_new (w.alloc (.cells #[.int .i64 M, .slice A1 n1 c1, .int .i64 S, .slice A3 n3 c3, .int .i64 L, .int .i64 K, .int .i64 T, .int .i64 E] 25)) #[.slice A1 n1 c1, .slice A3 n3 c3] 23; simpa using this) (fun k hk => ?_) (fun k hk => ?_)).mono ?_
                      · match k, hk with
                        | 0, _ => exact HA1.out.below (allocB (Below.refl _ _) _)
                        | 1, _ => exact HA3.out.below (allocB (Below.refl _ _) _)
                      · match k, hk with
                        | 0, _ => exact fun e => by have := HZ1.out e; exact ⟨by simpa [HN1.out] using this.1, this.2⟩
                        | 1, _ => exact fun e => by have := HZ3.out e; exact ⟨by simpa [HN3.out] using this.1, this.2⟩
                      rintro e w5 ⟨B5, d5, rfl, hr5, hb5⟩
                      rw [HCS.out] at hr5 ⊢
                      have HCB := Lib.hid (evB_app G Q)
                      have HCL : Hid ((G ++ Q).length = n1 + n3) := by rw [Hid, List.length_append, HN1.out, HN3.out]
                      generalize G ++ Q = CS at *
                      generalize hN : CS.length = N at *
                      have HCN := Lib.hid hN; clear hN
                      have hNb : N ≤ 2097152 := by have := HCL.out; omega
                      have HRW := Lib.hid (rd_of_row hr5)
                      clear hr5
                      have BX := be_box (be_box hbox (allocB (Below.refl _ _) (.cells #[.slice A1 n1 c1, .slice A3 n3 c3] 23))) hb5
                      have HB5 := Lib.hid hb5
                      replace hb5 := seqB hbl hb5
                      go_wp2_with fail
                      go_loop [69] (fun i => ∃ k : Nat, k ≤ N ∧ i = .int .i64 k ∧ Hid (evB (CS.take k) = true)) (fun i => N - (intOf i).toNat)
                      case atStart => exact ⟨0, by omega, rfl, by simp [Hid, evB]⟩
                      case round =>
                        obtain ⟨k, hk, rfl, hp⟩ := hrel
                        by_cases hlt : k < N
                        · obtain ⟨b, o, rfl, _, hc⟩ := HRW.out.int (k := k) (by rw [HCN.out]; exact hlt)
                          have HK : Hid (k < CS.length) := by rw [Hid, HCN.out]; exact hlt
                          have hki : (k : Int) < (N : Int) := by omega
                          cases hx : inB (CS.getD k 0) 0 999 with
                          | false =>
                            have HE := Lib.hid (evB_no HK.out hx)
                            have h2 : evB G = false ∨ evB Q = false := by have h1 := HCB.out; rw [HE.out] at h1; revert h1; cases evB G <;> cases evB Q <;> simp
                            have HPV : Hid (pollB M S L K T E G Q = false) := by rcases h2 with h | h <;> simp [Hid, pollB, h]
                            clear h2
                            generalize CS.getD k 0 = x at *
                            go_wp2_with (go_at_call 17; refine (pvC x false _ hx).mono ?_; rintro e w' ⟨rfl, rfl⟩)
                            go_ret
                            exact ⟨ret_bool HPV.out.symm, hb5⟩
                          | true =>
                            have HE := Lib.hid (evB_succ HK.out hp.out hx)
                            generalize CS.getD k 0 = x at *
                            go_wp2_with (go_at_call 17; refine (pvC x true _ hx).mono ?_; rintro e w' ⟨rfl, rfl⟩)
                            go_round
                            case rel => exact ⟨k + 1, by omega, by go_num, HE.out⟩
                            case measure => simp [intOf]; omega
                        · have hki : ¬ ((k : Int) < (N : Int)) := by omega
                          have HEV : evB G = true ∧ evB Q = true := by have h1 := HCB.out; rw [← List.take_of_length_le (l := CS) (i := k) (by rw [HCN.out]; omega), hp.out] at h1; revert h1; cases evB G <;> cases evB Q <;> simp
                          have HEV2 := Lib.hid HEV; clear HEV hp
                          have g0 : w5.cell? ⟨w.heap.size, 0, none⟩ = some (.int .i64 M) := box_cell BX 0
                          have g1 : w5.cell? ⟨w.heap.size, 1, none⟩ = some (.slice A1 n1 c1) := box_cell BX 1
                          have g2 : w5.cell? ⟨w.heap.size, 2, none⟩ = some (.int .i64 S) := box_cell BX 2
                          have g3 : w5.cell? ⟨w.heap.size, 3, none⟩ = some (.slice A3 n3 c3) := box_cell BX 3
                          have g4 : w5.cell? ⟨w.heap.size, 4, none⟩ = some (.int .i64 L) := box_cell BX 4
                          have g5 : w5.cell? ⟨w.heap.size, 5, none⟩ = some (.int .i64 K) := box_cell BX 5
                          have g6 : w5.cell? ⟨w.heap.size, 6, none⟩ = some (.int .i64 T) := box_cell BX 6
                          have g7 : w5.cell? ⟨w.heap.size, 7, none⟩ = some (.int .i64 E) := box_cell BX 7
                          go_wp2_with fail
                          refine (eventsC M A1 n1 c1 G S A3 n3 c3 Q L K T E _ HN1.out hm1 ((HA1.out.below (allocB (Below.refl _ _) (.cells #[.slice A1 n1 c1, .slice A3 n3 c3] 23))).below HB5.out) HN3.out hm3 ((HA3.out.below (allocB (Below.refl _ _) (.cells #[.slice A1 n1 c1, .slice A3 n3 c3] 23))).below HB5.out) HZ1.out HZ3.out).mono ?_
                          rintro e w6 ⟨B6, d6, rfl, _, hb6⟩
                          have HLV := Lib.hid (pollB_last (M := M) (S := S) (L := L) (K := K) (T := T) (E := E) hM hS (inB_more hK) (inB_more hT1) (inB_more hL1) (inB_more hE1) (by have := (inB_iff T 0 1).1 hT1; simp [this.1]) HEV2.out.1 HEV2.out.2)
                          go_wp2_with fail
                          go_ret
                          exact ⟨ret_bool (by rw [HLV.out]; exact decide_eq_decide.2 (by omega)), seqB hb5 hb6⟩
end Go.Proofs.YthekihggedgofaaDoor
