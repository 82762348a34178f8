/- The walk of FnPollAll: it returns true, and writes nothing that was there. -/
import Derived.Test.YthekihggedgofaaDoorPolU
import Derived.Test.YthekihggedgofaaDoorLawI
namespace Go.Proofs.YthekihggedgofaaDoor.lPoA
open Go.RowKit Go.Proofs.YthekihggedgofaaDoor

/-- what a valid poll tells: what was got, one at most, the queue -/
theorem pollL_form {M S L K T E : Int} {G Q : List Int} (h : pollB M S L K T E G Q = true) : ∃ X Y : List Int, pollL M S L K T E G Q = X ++ Q ∧ X = G ++ Y ∧ Y.length ≤ 1 := by
  unfold pollL evs; rw [if_pos h]
  by_cases hc : L ≠ -1 ∧ M = S
  · exact ⟨G ++ [L], [L], by rw [if_pos hc, List.append_assoc], rfl, by simp⟩
  · exact ⟨G, [], by rw [if_neg hc]; rfl, by simp, by simp⟩
theorem rd_head {w : World} {A : Option Addr} {X Y : List Int} (h : Rd w A (ints (X ++ Y))) : Rd w A (ints X) := by
  intro h0
  obtain ⟨b, o, e, hl, hc⟩ := h (by rw [ints_length] at h0 ⊢; rw [List.length_append]; omega)
  refine ⟨b, o, e, hl, fun k u hu => hc k u ?_⟩
  rw [← ints_app, List.getElem?_append_left ?_]
  · exact hu
  · rcases Nat.lt_or_ge k (ints X).length with h1 | h1
    · exact h1
    · rw [List.getElem?_eq_none h1] at hu; cases hu
theorem rd_tail {w : World} {b o h : Nat} {X Y : List Int} (hr : Rd w (some ⟨b, o, none⟩) (ints (X ++ Y))) (hx : X.length = h) : Rd w (some ⟨b, o + h, none⟩) (ints Y) := by
  have := rdPart (h := h) hr
  rw [← ints_app, ← hx, ← ints_length X, List.drop_left] at this
  rw [ints_length] at this
  rw [← hx]; exact this
theorem row_addr0 {w : World} {base n c : Nat} {E : TypeId} {size : Nat} {B : Option Addr} {cs : List Value} (h : w.ownsRow base E size (.slice B n c) n cs) : B = none ∨ ∃ g, B = some ⟨g, 0, none⟩ := by
  rcases h.2 with ⟨e, _⟩ | ⟨g, cap, cur, e, _⟩
  · cases e; exact .inl rfl
  · cases e; exact .inr ⟨g, rfl⟩
theorem pollL_no {M S L K T E : Int} {G Q : List Int} (h : pollB M S L K T E G Q = false) : pollL M S L K T E G Q = [] := by
  unfold pollL; rw [h]; rfl

set_option maxRecDepth 100000 in
set_option maxHeartbeats 4000000 in
theorem walk (w : World) (A : Option Addr) (m c : Nat) (hc : m ≤ c) (hm : m ≤ maxLen) (hA : RdB w A m) :
    Calls Tryd.prog 4 #[.slice A m c] w fun e w' => e = .returned (.bool true) ∧ Below w.heap.size w w' := by
  unfold maxLen at hm
  by_cases hs : m ≤ 1048576
  case neg =>
    go_enter Tryd.func4, Tryd.ntmps4
    go_wp2_with fail
    go_ret
    exact ⟨rfl, Below.refl _ _⟩
  have HA := Lib.hid hA; clear hA
  have hb : Below w.heap.size w w := Below.refl _ _
  go_enter Tryd.func4, Tryd.ntmps4
  go_wp2_with fail
  refine (dDrawPollAll A m c w hc hs HA.out).mono ?_
  rintro e w1 ⟨M, B1, n1, d1, G, S, B3, n3, d3, Q, L, K, T, E, rfl, h1, h3, o1, o3, hbn⟩
  replace hb := seqB hb hbn
  clear hbn
  have HN1 : Hid (G.length = n1) := by have hq := o1.1; rw [ints_length] at hq; exact hq
  have HN3 : Hid (Q.length = n3) := by have hq := o3.1; rw [ints_length] at hq; exact hq
  have HZ1 := Lib.hid o1.nil; have HZ3 := Lib.hid o3.nil
  have hr1 := o1.rd; have hr3 := o3.rd
  clear o1 o3
  have hbox := new_box w1 (.cells #[.int .i64 M, .slice B1 n1 d1, .int .i64 S, .slice B3 n3 d3, .int .i64 L, .int .i64 K, .int .i64 T, .int .i64 E] 25)
  have g0 : (w1.alloc (.cells #[.int .i64 M, .slice B1 n1 d1, .int .i64 S, .slice B3 n3 d3, .int .i64 L, .int .i64 K, .int .i64 T, .int .i64 E] 25)).cell? ⟨w1.heap.size, 0, none⟩ = some (.int .i64 M) := box_cell hbox 0
  have g1 : (w1.alloc (.cells #[.int .i64 M, .slice B1 n1 d1, .int .i64 S, .slice B3 n3 d3, .int .i64 L, .int .i64 K, .int .i64 T, .int .i64 E] 25)).cell? ⟨w1.heap.size, 1, none⟩ = some (.slice B1 n1 d1) := box_cell hbox 1
  have g2 : (w1.alloc (.cells #[.int .i64 M, .slice B1 n1 d1, .int .i64 S, .slice B3 n3 d3, .int .i64 L, .int .i64 K, .int .i64 T, .int .i64 E] 25)).cell? ⟨w1.heap.size, 2, none⟩ = some (.int .i64 S) := box_cell hbox 2
  have g3 : (w1.alloc (.cells #[.int .i64 M, .slice B1 n1 d1, .int .i64 S, .slice B3 n3 d3, .int .i64 L, .int .i64 K, .int .i64 T, .int .i64 E] 25)).cell? ⟨w1.heap.size, 3, none⟩ = some (.slice B3 n3 d3) := box_cell hbox 3
  have g4 : (w1.alloc (.cells #[.int .i64 M, .slice B1 n1 d1, .int .i64 S, .slice B3 n3 d3, .int .i64 L, .int .i64 K, .int .i64 T, .int .i64 E] 25)).cell? ⟨w1.heap.size, 4, none⟩ = some (.int .i64 L) := box_cell hbox 4
  have g5 : (w1.alloc (.cells #[.int .i64 M, .slice B1 n1 d1, .int .i64 S, .slice B3 n3 d3, .int .i64 L, .int .i64 K, .int .i64 T, .int .i64 E] 25)).cell? ⟨w1.heap.size, 5, none⟩ = some (.int .i64 K) := box_cell hbox 5
  have g6 : (w1.alloc (.cells #[.int .i64 M, .slice B1 n1 d1, .int .i64 S, .slice B3 n3 d3, .int .i64 L, .int .i64 K, .int .i64 T, .int .i64 E] 25)).cell? ⟨w1.heap.size, 6, none⟩ = some (.int .i64 T) := box_cell hbox 6
  have g7 : (w1.alloc (.cells #[.int .i64 M, .slice B1 n1 d1, .int .i64 S, .slice B3 n3 d3, .int .i64 L, .int .i64 K, .int .i64 T, .int .i64 E] 25)).cell? ⟨w1.heap.size, 7, none⟩ = some (.int .i64 E) := box_cell hbox 7
  have hb1 := allocB hb (.cells #[.int .i64 M, .slice B1 n1 d1, .int .i64 S, .slice B3 n3 d3, .int .i64 L, .int .i64 K, .int .i64 T, .int .i64 E] 25)
  have hq1 := hr1.below (allocB (Below.refl w1.heap.size w1) (.cells #[.int .i64 M, .slice B1 n1 d1, .int .i64 S, .slice B3 n3 d3, .int .i64 L, .int .i64 K, .int .i64 T, .int .i64 E] 25))
  have hq3 := hr3.below (allocB (Below.refl w1.heap.size w1) (.cells #[.int .i64 M, .slice B1 n1 d1, .int .i64 S, .slice B3 n3 d3, .int .i64 L, .int .i64 K, .int .i64 T, .int .i64 E] 25))
  go_wp2_with fail
  replace hb := hb1; replace hr1 := hq1; replace hr3 := hq3; clear hb1 hq1 hq3
  have HLEN := Lib.hid (pollL_len (M := M) (S := S) (L := L) (K := K) (T := T) (E := E) (G := G) (Q := Q))
  refine (implPA M B1 n1 d1 G S B3 n3 d3 Q L K T E _ HN1.out (by omega) hr1 HN3.out (by omega) hr3 HZ1.out HZ3.out).mono ?_
  rintro e w2 ⟨BX, dX, rfl, hX, hbn⟩
  replace hb := seqB hb hbn
  replace hbox := be_box hbox hbn
  replace hr1 := hr1.below hbn
  replace hr3 := hr3.below hbn
  clear hbn
  have hoX := rd_of_row hX
  have hnX := Lib.hid (row_none hX)
  have hcX := row_cap hX
  have HFX := Lib.hid (row_addr0 hX)
  clear hX
  clear g0 g1 g2 g3 g4 g5 g6 g7
  have g0 : w2.cell? ⟨w1.heap.size, 0, none⟩ = some (.int .i64 M) := box_cell hbox 0
  have g1 : w2.cell? ⟨w1.heap.size, 1, none⟩ = some (.slice B1 n1 d1) := box_cell hbox 1
  have g2 : w2.cell? ⟨w1.heap.size, 2, none⟩ = some (.int .i64 S) := box_cell hbox 2
  have g3 : w2.cell? ⟨w1.heap.size, 3, none⟩ = some (.slice B3 n3 d3) := box_cell hbox 3
  have g4 : w2.cell? ⟨w1.heap.size, 4, none⟩ = some (.int .i64 L) := box_cell hbox 4
  have g5 : w2.cell? ⟨w1.heap.size, 5, none⟩ = some (.int .i64 K) := box_cell hbox 5
  have g6 : w2.cell? ⟨w1.heap.size, 6, none⟩ = some (.int .i64 T) := box_cell hbox 6
  have g7 : w2.cell? ⟨w1.heap.size, 7, none⟩ = some (.int .i64 E) := box_cell hbox 7
  go_wp2_with fail
  refine (specPA M B1 n1 d1 G S B3 n3 d3 Q L K T E _ HN1.out (by omega) hr1 HN3.out (by omega) hr3 HZ1.out HZ3.out).mono ?_
  rintro e w3 ⟨BY, dY, rfl, hY, hbn⟩
  replace hb := seqB hb hbn
  replace hbox := be_box hbox hbn
  replace hr1 := hr1.below hbn
  replace hr3 := hr3.below hbn
  replace hoX := hoX.below hbn
  clear hbn
  have hoY := rd_of_row hY
  clear hY
  clear g0 g1 g2 g3 g4 g5 g6 g7
  generalize hP : pollL M S L K T E G Q = P at *
  have HP := Lib.hid hP; clear hP
  generalize hN : P.length = N at *
  have HN := Lib.hid hN; clear hN
  have hN12 : N ≤ 12 := HLEN.out
  clear HLEN
  go_wp2_with fail
  refine (sameInts_same BX BY N dX dY P _ HN.out (by omega) hoX hoY).mono ?_
  rintro e w4 ⟨rfl, qw4, rfl⟩
  have hbn := drewB w3 qw4
  generalize w3.drewN qw4 = w4 at *
  replace hb := seqB hb hbn
  replace hbox := be_box hbox hbn
  replace hr1 := hr1.below hbn
  replace hr3 := hr3.below hbn
  replace hoX := hoX.below hbn
  replace hoY := hoY.below hbn
  clear hbn
  clear hoY
  have g0 : w4.cell? ⟨w1.heap.size, 0, none⟩ = some (.int .i64 M) := box_cell hbox 0
  have g1 : w4.cell? ⟨w1.heap.size, 1, none⟩ = some (.slice B1 n1 d1) := box_cell hbox 1
  have g2 : w4.cell? ⟨w1.heap.size, 2, none⟩ = some (.int .i64 S) := box_cell hbox 2
  have g3 : w4.cell? ⟨w1.heap.size, 3, none⟩ = some (.slice B3 n3 d3) := box_cell hbox 3
  have g4 : w4.cell? ⟨w1.heap.size, 4, none⟩ = some (.int .i64 L) := box_cell hbox 4
  have g5 : w4.cell? ⟨w1.heap.size, 5, none⟩ = some (.int .i64 K) := box_cell hbox 5
  have g6 : w4.cell? ⟨w1.heap.size, 6, none⟩ = some (.int .i64 T) := box_cell hbox 6
  have g7 : w4.cell? ⟨w1.heap.size, 7, none⟩ = some (.int .i64 E) := box_cell hbox 7
  go_wp2_with fail
  refine (specPV M B1 n1 d1 G S B3 n3 d3 Q L K T E _ HN1.out (by omega) hr1 HN3.out (by omega) hr3).mono ?_
  rintro e w5 ⟨rfl, hbn⟩
  replace hb := seqB hb hbn
  replace hbox := be_box hbox hbn
  replace hr1 := hr1.below hbn
  replace hr3 := hr3.below hbn
  replace hoX := hoX.below hbn
  clear hbn
  clear g0 g1 g2 g3 g4 g5 g6 g7
  cases hv : pollB M S L K T E G Q with
  | false =>
    have hP0 := pollL_no hv
    rw [HP.out] at hP0
    subst hP0
    have hN0 := HN.out
    simp at hN0
    subst hN0
    clear hv hoX hr1 hr3 hbox
    go_wp2_with fail
    refine (aliveC _).mono ?_
    rintro e w6 ⟨rfl, hbn⟩
    replace hb := seqB hb hbn
    clear hbn
    go_wp2_with fail
    go_ret
    exact ⟨ret_bool (by simp), hb⟩
  | true =>
    have g1 : w5.cell? ⟨w1.heap.size, 1, none⟩ = some (.slice B1 n1 d1) := box_cell hbox 1
    have g3 : w5.cell? ⟨w1.heap.size, 3, none⟩ = some (.slice B3 n3 d3) := box_cell hbox 3
    obtain ⟨X, Y, hX, hXY, hY1⟩ := pollL_form hv
    rw [HP.out] at hX
    subst hX
    have HXY := Lib.hid hXY; clear hXY hv HP
    obtain ⟨b, hbX⟩ : ∃ b, X.length = b := ⟨_, rfl⟩
    have hNb : N = b + n3 := by have := HN.out; rw [List.length_append, HN3.out] at this; omega
    have hbn1 : n1 ≤ b ∧ b ≤ n1 + 1 := by have := HXY.out; subst this; rw [List.length_append, HN1.out] at hbX; omega
    obtain ⟨hb1, hb2⟩ := hbn1
    have HBX := Lib.hid hbX; clear hbX hY1
    have hwb : IntKind.i64.wrap ((N : Int) - (n3 : Int)) = (b : Int) := by rw [IntWalk.i64_in _ (by omega)]; omega
    have hwn : IntKind.i64.wrap ((n1 : Int) + 1) = (n1 : Int) + 1 := IntWalk.i64_in _ (by omega)
    have f1 : decide ((n1 : Int) ≤ (b : Int)) = true := by simp; omega
    have f1' : decide (n1 ≤ b) = true := by simp; omega
    have f2 : decide ((b : Int) ≤ (n1 : Int) + 1) = true := by simp; omega
    have f2' : decide (b ≤ n1 + 1) = true := by simp; omega
    have hrl := Lib.hid hoX
    have hR1 := Lib.hid hr1; have hR3 := Lib.hid hr3
    have HB := Lib.hid hb
    have hNle : b ≤ N := by omega
    have HNb := Lib.hid hNb
    clear hoX hr1 hr3 hb hNb hbox
    go_upto_region 11 with fail
    rcases HFX.out with e0 | ⟨gB, e0⟩
    · subst e0
      obtain ⟨e1, e2⟩ := hnX.out rfl
      have hnb := HNb.out
      have e3 : b = 0 := by omega
      have e4 : n3 = 0 := by omega
      have e5 : n1 = 0 := by omega
      clear hnb hwb hwn f1 f1' f2 f2' hb1 hb2 hNle hcX hN12 HNb hnX HFX
      subst e1 e2 e3 e4 e5
      have hG0 := List.eq_nil_of_length_eq_zero HN1.out
      have hQ0 := List.eq_nil_of_length_eq_zero HN3.out
      have hX0 := List.eq_nil_of_length_eq_zero HBX.out
      subst hG0 hQ0 hX0
      have hw1 : IntKind.i64.wrap 1 = 1 := IntWalk.i64_in _ (by omega)
      have HS1 : Hid (Calls Tryd.prog 12 #[.slice none 0 0, .slice B1 0 d1] w5.drew fun e w' => e = .returned (.bool true) ∧ ∃ n, w' = w5.drew.drewN n) := Lib.hid (sameInts_same none B1 0 0 d1 [] w5.drew HN1.out (by omega) (Rd.nil) hR1.out)
      have HS2 : Hid (∀ q, Calls Tryd.prog 12 #[.slice none 0 0, .slice B3 0 d3] (w5.drewN q) fun e w' => e = .returned (.bool true) ∧ ∃ n, w' = (w5.drewN q).drewN n) := Lib.hid (fun q => by exact sameInts_same none B3 0 0 d3 [] (w5.drewN q) HN3.out (by omega) (Rd.below (w := w5) (Rd.nil) (drewB _ q)) (Rd.below (w := w5) (hR3.out) (drewB _ q)))
      clear hrl hR1 hR3
      go_region_held3 (fun W' => W'.cell? ⟨w1.heap.size, 1, none⟩ = some (.slice B1 0 d1) ∧ W'.cell? ⟨w1.heap.size, 3, none⟩ = some (.slice B3 0 d3)) (first | go_keep | (go_split_ands; refine ⟨?_, ?_⟩ <;> go_keep)) (first | (go_at_call 12; refine Calls.mono (by with_reducible exact HS1.out) ?_; rintro e wa ⟨rfl, q, rfl⟩) | (go_at_call 12; refine Calls.mono (by with_reducible exact HS2.out _) ?_; rintro e wb ⟨rfl, q2, rfl⟩))
      all_goals
        go_wp2_with fail
        go_ret
        exact ⟨rfl, by first | exact drewNB HB.out _ | exact drewNB (drewNB HB.out _) _ | exact drewNB (drewNB (drew1B HB.out) _) _⟩
    · subst e0
      by_cases hcap : b = dX
      · skip
        have hdN : dX = N := by have := HNb.out; omega
        have h30 : n3 = 0 := by have := HNb.out; omega
        clear HNb HFX hnX hwb
        subst hdN
        subst h30
        subst hcap
        have hwb : IntKind.i64.wrap ((b : Int) - ((0 : Nat) : Int)) = (b : Int) := by rw [IntWalk.i64_in _ (by omega)]; omega
        have hQ0 := List.eq_nil_of_length_eq_zero HN3.out
        subst hQ0
        skip
        have s1 : 0 ≤ (n1 : Int) ∧ (n1 : Int) ≤ (b : Int) := by omega
        have s2 : 0 ≤ (b : Int) ∧ (b : Int) ≤ (b : Int) := by omega
        have s3 : (b : Int) ≤ (b : Int) := by omega
        have HS1 : Hid (Calls Tryd.prog 12 #[.slice (some ⟨gB, 0, none⟩) n1 b, .slice B1 n1 d1] w5.drew fun e w' => e = .returned (.bool true) ∧ ∃ n, w' = w5.drew.drewN n) := Lib.hid (sameInts_same (some ⟨gB, 0, none⟩) B1 n1 b d1 G w5.drew HN1.out (by omega) (rd_head (by have := HXY.out; subst this; rw [List.append_assoc] at hrl; exact hrl.out)) hR1.out)
        have HS2 : Hid (∀ q, Calls Tryd.prog 12 #[.slice (some ⟨gB, 0, none⟩) 0 0, .slice B3 0 d3] (w5.drewN q) fun e w' => e = .returned (.bool true) ∧ ∃ n, w' = (w5.drewN q).drewN n) := Lib.hid (fun q => by exact sameInts_same (some ⟨gB, 0, none⟩) B3 0 0 d3 [] (w5.drewN q) HN3.out (by omega) (Rd.below (w := w5) (Rd.nil) (drewB _ q)) (Rd.below (w := w5) (hR3.out) (drewB _ q)))
        clear hrl hR1 hR3
        go_region_held3 (fun W' => W'.cell? ⟨w1.heap.size, 1, none⟩ = some (.slice B1 n1 d1) ∧ W'.cell? ⟨w1.heap.size, 3, none⟩ = some (.slice B3 0 d3)) (first | go_keep | (go_split_ands; refine ⟨?_, ?_⟩ <;> go_keep)) (first | (go_at_call 12; refine Calls.mono (by with_reducible exact HS1.out) ?_; rintro e wa ⟨rfl, q, rfl⟩) | (go_at_call 12; refine Calls.mono (by with_reducible exact HS2.out _) ?_; rintro e wb ⟨rfl, q2, rfl⟩))
        all_goals
          go_wp2_with fail
          go_ret
          exact ⟨rfl, by first | exact drewNB HB.out _ | exact drewNB (drewNB HB.out _) _ | exact drewNB (drewNB (drew1B HB.out) _) _⟩
      · skip
        have s4 : ¬ ((dX : Int) = (b : Int)) := by omega
        have s5 : ¬ (dX = b) := by omega
        have hdx : N ≤ dX := hcX
        have s1 : 0 ≤ (n1 : Int) ∧ (n1 : Int) ≤ (dX : Int) := by omega
        have s2 : 0 ≤ (b : Int) ∧ (b : Int) ≤ (N : Int) := by omega
        have s3 : (N : Int) ≤ (dX : Int) := by omega
        have hNs : N - b = n3 := by have := HNb.out; omega
        have HS1 : Hid (Calls Tryd.prog 12 #[.slice (some ⟨gB, 0, none⟩) n1 dX, .slice B1 n1 d1] w5.drew fun e w' => e = .returned (.bool true) ∧ ∃ n, w' = w5.drew.drewN n) := Lib.hid (sameInts_same (some ⟨gB, 0, none⟩) B1 n1 dX d1 G w5.drew HN1.out (by omega) (rd_head (by have := HXY.out; subst this; rw [List.append_assoc] at hrl; exact hrl.out)) hR1.out)
        have HS2 : Hid (∀ q, Calls Tryd.prog 12 #[.slice (some ⟨gB, b, none⟩) (N - b) (dX - b), .slice B3 n3 d3] (w5.drewN q) fun e w' => e = .returned (.bool true) ∧ ∃ n, w' = (w5.drewN q).drewN n) := Lib.hid (fun q => by rw [hNs]; exact sameInts_same (some ⟨gB, b, none⟩) B3 n3 (dX - b) d3 Q (w5.drewN q) HN3.out (by omega) (Rd.below (w := w5) (by have h9 := rd_tail hrl.out HBX.out; rw [Nat.zero_add] at h9; exact h9) (drewB _ q)) (Rd.below (w := w5) (hR3.out) (drewB _ q)))
        clear hrl hR1 hR3 hNs
        go_region_held3 (fun W' => W'.cell? ⟨w1.heap.size, 1, none⟩ = some (.slice B1 n1 d1) ∧ W'.cell? ⟨w1.heap.size, 3, none⟩ = some (.slice B3 n3 d3)) (first | go_keep | (go_split_ands; refine ⟨?_, ?_⟩ <;> go_keep)) (first | (go_at_call 12; refine Calls.mono (by with_reducible exact HS1.out) ?_; rintro e wa ⟨rfl, q, rfl⟩) | (go_at_call 12; refine Calls.mono (by with_reducible exact HS2.out _) ?_; rintro e wb ⟨rfl, q2, rfl⟩))
        all_goals
          go_wp2_with fail
          go_ret
          exact ⟨rfl, by first | exact drewNB HB.out _ | exact drewNB (drewNB HB.out _) _ | exact drewNB (drewNB (drew1B HB.out) _) _⟩
end Go.Proofs.YthekihggedgofaaDoor.lPoA
