/- Contracts of PollValid and PollAll, of the reference and of the program. No statement is proved here. -/
import Derived.Test.YthekihggedgofaaDoorPolG
import Derived.Test.YthekihggedgofaaDoorAll
import Derived.Test.YthekihggedgofaaDoorFr
namespace Go.Proofs.YthekihggedgofaaDoor
open Go.RowKit

def evB (l : List Int) : Bool := l.all fun x => inB x 0 999
def evs (M S L : Int) (G Q : List Int) : List Int := G ++ ((if L ≠ -1 ∧ M = S then [L] else []) ++ Q)
def pollB (M S L K T E : Int) (G Q : List Int) : Bool :=
  inB M 0 1 && (inB S 0 1 && (inB K (-1) 1 && (inB T (-1) 1 && (inB L (-1) 999 && (inB E (-1) 999 && ((decide (0 ≤ T) || E == -1) && (evB G && (evB Q && decide ((evs M S L G Q).length ≤ 12)))))))))
def pollL (M S L K T E : Int) (G Q : List Int) : List Int := if pollB M S L K T E G Q then evs M S L G Q else []
def bitB (n : Int) : Bool := n == 0 || n == 1
theorem bitB_in (n : Int) : bitB n = inB n 0 1 := by
  rw [Bool.eq_iff_iff]; simp only [bitB, Bool.or_eq_true, beq_iff_eq, inB_iff]; omega
theorem evB_app (l m : List Int) : evB (l ++ m) = (evB l && evB m) := by simp [evB]
theorem evB_no {l : List Int} {k : Nat} (hk : k < l.length) (h : inB (l.getD k 0) 0 999 = false) : evB l = false := all_false _ l 0 k hk h
theorem evB_succ {l : List Int} {k : Nat} (hk : k < l.length) (h : evB (l.take k) = true) (h2 : inB (l.getD k 0) 0 999 = true) : evB (l.take (k + 1)) = true := by
  rw [evB, all_take_succ _ l 0 k hk, show (l.take k).all _ = true from h, h2]; rfl
theorem evs_len (M S L : Int) (G Q : List Int) : (evs M S L G Q).length = G.length + Q.length + (if L ≠ -1 ∧ M = S then 1 else 0) := by
  unfold evs; split <;> simp <;> omega
theorem pollB_last {M S L K T E : Int} {G Q : List Int} (h0 : inB M 0 1 = true) (h1 : inB S 0 1 = true) (h2 : inB K (-1) 1 = true) (h3 : inB T (-1) 1 = true) (h4 : inB L (-1) 999 = true) (h5 : inB E (-1) 999 = true) (h6 : (decide (0 ≤ T) || E == -1) = true) (h8 : evB G = true) (h9 : evB Q = true) : pollB M S L K T E G Q = decide ((evs M S L G Q).length ≤ 12) := by
  rw [pollB, h0, h1, h2, h3, h4, h5, h6, h8, h9]; simp
theorem inB_no {n lo hi : Int} (h : ¬ (lo ≤ n ∧ n ≤ hi)) : inB n lo hi = false := by rw [inB_not]; omega

set_option maxHeartbeats 400000 in
theorem specEv (A : Option Addr) (n c : Nat) (l : List Int) (w : World) (hn : l.length = n) (hm : n ≤ 1048576) (hA : Rd w A (ints l)) :
    Calls Tryd.prog 21 #[.slice A n c] w fun e w' => e = .returned (.bool (evB l)) ∧ w = w' := by
  have HA := Lib.hid hA; clear hA
  have HN := Lib.hid hn; clear hn
  go_enter Tryd.func21, Tryd.ntmps21
  go_wp2_with fail
  go_loop [3] (fun i => ∃ k : Nat, k ≤ n ∧ i = .int .i64 k ∧ Hid (evB (l.take k) = true)) (fun i => n - (intOf i).toNat)
  case atStart => exact ⟨0, by omega, rfl, by simp [Hid, evB]⟩
  case round =>
    obtain ⟨k, hk, rfl, hp⟩ := hrel
    by_cases hlt : k < n
    · obtain ⟨b, o, rfl, _, hc⟩ := HA.out.int (k := k) (by have := HN.out; omega)
      have HK : Hid (k < l.length) := by rw [Hid, HN.out]; exact hlt
      have hki : (k : Int) < (n : Int) := by omega
      cases hx : inB (l.getD k 0) 0 999 with
      | false =>
        have HE := Lib.hid (evB_no HK.out hx)
        generalize l.getD k 0 = x at *
        go_wp2_with (go_at_call 20; refine (l1In_any _ _ _ _).mono ?_; rintro e w' ⟨rfl, rfl⟩)
        go_ret
        exact ⟨ret_bool HE.out.symm, rfl⟩
      | true =>
        have HE := Lib.hid (evB_succ HK.out hp.out hx)
        generalize l.getD k 0 = x at *
        go_wp2_with (go_at_call 20; refine (l1In_any _ _ _ _).mono ?_; rintro e w' ⟨rfl, rfl⟩)
        go_round
        case rel => exact ⟨k + 1, by omega, by go_num, HE.out⟩
        case measure => simp [intOf]; omega
    · have hki : ¬ ((k : Int) < (n : Int)) := by omega
      go_wp2_with fail
      go_ret
      exact ⟨ret_bool (by rw [← hp.out, List.take_of_length_le (by rw [HN.out]; omega)]), rfl⟩
theorem bitC (n : Int) (v : Bool) (w : World) (h : inB n 0 1 = v) : Calls Tryd.prog 16 #[.int .i64 n] w fun e w' => e = .returned (.bool v) ∧ w = w' := by
  rw [← bitB_in] at h
  subst h
  unfold bitB
  cases h0 : (n == 0) <;> cases h1 : (n == 1)
  all_goals
    go_enter Tryd.func16, Tryd.ntmps16
    go_wp2_with fail
    go_ret
    exact ⟨rfl, rfl⟩
theorem pvC (n : Int) (v : Bool) (w : World) (h : inB n 0 999 = v) : Calls Tryd.prog 17 #[.int .i64 n] w fun e w' => e = .returned (.bool v) ∧ w = w' := by
  subst h; exact pv_any n w
theorem l1C (n lo hi : Int) (v : Bool) (w : World) (h : inB n lo hi = v) : Calls Tryd.prog 20 #[.int .i64 n, .int .i64 lo, .int .i64 hi] w fun e w' => e = .returned (.bool v) ∧ w = w' := by
  subst h; exact l1In_any n lo hi w
set_option maxRecDepth 100000 in
set_option maxHeartbeats 8000000 in
theorem specPV (M : Int) (A1 : Option Addr) (n1 c1 : Nat) (G : List Int) (S : Int) (A3 : Option Addr) (n3 c3 : Nat) (Q : List Int) (L K T E : Int) (w : World) (hn1 : G.length = n1) (hm1 : n1 ≤ 1048576) (hA1 : Rd w A1 (ints G)) (hn3 : Q.length = n3) (hm3 : n3 ≤ 1048576) (hA3 : Rd w A3 (ints Q)) :
    Calls Tryd.prog 7 #[.agg #[.int .i64 M, .slice A1 n1 c1, .int .i64 S, .slice A3 n3 c3, .int .i64 L, .int .i64 K, .int .i64 T, .int .i64 E]] w fun e w' => e = .returned (.bool (pollB M S L K T E G Q)) ∧ Below w.heap.size w w' := by
  have HA1 := Lib.hid (hA1.below (allocB (Below.refl _ _) (.cells #[.int .i64 M, .slice A1 n1 c1, .int .i64 S, .slice A3 n3 c3, .int .i64 L, .int .i64 K, .int .i64 T, .int .i64 E] 25))); clear hA1
  have HA3 := Lib.hid (hA3.below (allocB (Below.refl _ _) (.cells #[.int .i64 M, .slice A1 n1 c1, .int .i64 S, .slice A3 n3 c3, .int .i64 L, .int .i64 K, .int .i64 T, .int .i64 E] 25))); clear hA3
  have HN1 := Lib.hid hn1; have HN3 := Lib.hid hn3; clear hn1 hn3
  have hb : Below w.heap.size w (w.alloc (.cells #[.int .i64 M, .slice A1 n1 c1, .int .i64 S, .slice A3 n3 c3, .int .i64 L, .int .i64 K, .int .i64 T, .int .i64 E] 25)) := allocB (Below.refl _ _) _
  have hbox : Hid ((w.alloc (.cells #[.int .i64 M, .slice A1 n1 c1, .int .i64 S, .slice A3 n3 c3, .int .i64 L, .int .i64 K, .int .i64 T, .int .i64 E] 25)).heap[w.heap.size]? = some (.cells #[.int .i64 M, .slice A1 n1 c1, .int .i64 S, .slice A3 n3 c3, .int .i64 L, .int .i64 K, .int .i64 T, .int .i64 E] 25 (0, 0))) := heap_alloc_new w _
  have HS1 := Lib.hid (specEv A1 n1 c1 G _ HN1.out hm1 HA1.out)
  have HS3 := Lib.hid (specEv A3 n3 c3 Q _ HN3.out hm3 HA3.out)
  by_cases hL : 0 ≤ L
  · have hL' : decide ((0 : Int) ≤ L) = true := by simp [hL]
    by_cases hMS : M = S
    · subst hMS
      cases h0 : inB M 0 1 with
      | false =>
        go_enter Tryd.func7, Tryd.ntmps7
        go_wp2_with (first | (go_at_call 20; refine (l1In_any _ _ _ _).mono ?_; rintro e w' ⟨rfl, rfl⟩) | (go_at_call 21; first | (refine Calls.mono (by with_reducible exact HS1.out) ?_; rintro e w' ⟨rfl, rfl⟩) | (refine Calls.mono (by with_reducible exact HS3.out) ?_; rintro e w' ⟨rfl, rfl⟩)))
        go_ret
        exact ⟨ret_bool (by simp [pollB, h0]), hb⟩
      | true =>
      have h1 := h0
      cases h2 : inB K (-1) 1 with
      | false =>
        go_enter Tryd.func7, Tryd.ntmps7
        go_wp2_with (first | (go_at_call 20; refine (l1In_any _ _ _ _).mono ?_; rintro e w' ⟨rfl, rfl⟩) | (go_at_call 21; first | (refine Calls.mono (by with_reducible exact HS1.out) ?_; rintro e w' ⟨rfl, rfl⟩) | (refine Calls.mono (by with_reducible exact HS3.out) ?_; rintro e w' ⟨rfl, rfl⟩)))
        go_ret
        exact ⟨ret_bool (by simp [pollB, h2]), hb⟩
      | true =>
      cases h3 : inB T (-1) 1 with
      | false =>
        go_enter Tryd.func7, Tryd.ntmps7
        go_wp2_with (first | (go_at_call 20; refine (l1In_any _ _ _ _).mono ?_; rintro e w' ⟨rfl, rfl⟩) | (go_at_call 21; first | (refine Calls.mono (by with_reducible exact HS1.out) ?_; rintro e w' ⟨rfl, rfl⟩) | (refine Calls.mono (by with_reducible exact HS3.out) ?_; rintro e w' ⟨rfl, rfl⟩)))
        go_ret
        exact ⟨ret_bool (by simp [pollB, h3]), hb⟩
      | true =>
      cases h4 : inB L (-1) 999 with
      | false =>
        go_enter Tryd.func7, Tryd.ntmps7
        go_wp2_with (first | (go_at_call 20; refine (l1In_any _ _ _ _).mono ?_; rintro e w' ⟨rfl, rfl⟩) | (go_at_call 21; first | (refine Calls.mono (by with_reducible exact HS1.out) ?_; rintro e w' ⟨rfl, rfl⟩) | (refine Calls.mono (by with_reducible exact HS3.out) ?_; rintro e w' ⟨rfl, rfl⟩)))
        go_ret
        exact ⟨ret_bool (by simp [pollB, h4]), hb⟩
      | true =>
      cases h5 : inB E (-1) 999 with
      | false =>
        go_enter Tryd.func7, Tryd.ntmps7
        go_wp2_with (first | (go_at_call 20; refine (l1In_any _ _ _ _).mono ?_; rintro e w' ⟨rfl, rfl⟩) | (go_at_call 21; first | (refine Calls.mono (by with_reducible exact HS1.out) ?_; rintro e w' ⟨rfl, rfl⟩) | (refine Calls.mono (by with_reducible exact HS3.out) ?_; rintro e w' ⟨rfl, rfl⟩)))
        go_ret
        exact ⟨ret_bool (by simp [pollB, h5]), hb⟩
      | true =>
      by_cases hT : 0 ≤ T
      · have hT' : decide ((0 : Int) ≤ T) = true := by simp [hT]
        have hTE : (decide (0 ≤ T) || E == -1) = true := by rw [hT']; rfl
        cases h8 : evB G with
        | false =>
          go_enter Tryd.func7, Tryd.ntmps7
          go_wp2_with (first | (go_at_call 20; refine (l1In_any _ _ _ _).mono ?_; rintro e w' ⟨rfl, rfl⟩) | (go_at_call 21; first | (refine Calls.mono (by with_reducible exact HS1.out) ?_; rintro e w' ⟨rfl, rfl⟩) | (refine Calls.mono (by with_reducible exact HS3.out) ?_; rintro e w' ⟨rfl, rfl⟩)))
          go_ret
          exact ⟨ret_bool (by simp [pollB, h8]), hb⟩
        | true =>
        cases h9 : evB Q with
        | false =>
          go_enter Tryd.func7, Tryd.ntmps7
          go_wp2_with (first | (go_at_call 20; refine (l1In_any _ _ _ _).mono ?_; rintro e w' ⟨rfl, rfl⟩) | (go_at_call 21; first | (refine Calls.mono (by with_reducible exact HS1.out) ?_; rintro e w' ⟨rfl, rfl⟩) | (refine Calls.mono (by with_reducible exact HS3.out) ?_; rintro e w' ⟨rfl, rfl⟩)))
          go_ret
          exact ⟨ret_bool (by simp [pollB, h8, h9]), hb⟩
        | true =>
        have HEV : Hid (pollB M M L K T E G Q = decide ((n1 : Int) + (n3 : Int) + 1 ≤ 12)) := (pollB_last h0 h1 h2 h3 h4 h5 (hTE) h8 h9).trans (by rw [evs_len, if_pos ⟨by omega, rfl⟩, HN1.out, HN3.out]; exact decide_eq_decide.2 (by omega))
        go_enter Tryd.func7, Tryd.ntmps7
        go_wp2_with (first | (go_at_call 20; refine (l1In_any _ _ _ _).mono ?_; rintro e w' ⟨rfl, rfl⟩) | (go_at_call 21; first | (refine Calls.mono (by with_reducible exact HS1.out) ?_; rintro e w' ⟨rfl, rfl⟩) | (refine Calls.mono (by with_reducible exact HS3.out) ?_; rintro e w' ⟨rfl, rfl⟩)))
        go_ret
        exact ⟨ret_bool (by rw [HEV.out]), hb⟩
      · have hT' : decide ((0 : Int) ≤ T) = false := by simp [hT]
        by_cases hE : E = -1
        · subst hE
          have hE1 : (decide (0 ≤ T) || (-1 : Int) == -1) = true := by simp
          cases h8 : evB G with
          | false =>
            go_enter Tryd.func7, Tryd.ntmps7
            go_wp2_with (first | (go_at_call 20; refine (l1In_any _ _ _ _).mono ?_; rintro e w' ⟨rfl, rfl⟩) | (go_at_call 21; first | (refine Calls.mono (by with_reducible exact HS1.out) ?_; rintro e w' ⟨rfl, rfl⟩) | (refine Calls.mono (by with_reducible exact HS3.out) ?_; rintro e w' ⟨rfl, rfl⟩)))
            go_ret
            exact ⟨ret_bool (by simp [pollB, h8]), hb⟩
          | true =>
          cases h9 : evB Q with
          | false =>
            go_enter Tryd.func7, Tryd.ntmps7
            go_wp2_with (first | (go_at_call 20; refine (l1In_any _ _ _ _).mono ?_; rintro e w' ⟨rfl, rfl⟩) | (go_at_call 21; first | (refine Calls.mono (by with_reducible exact HS1.out) ?_; rintro e w' ⟨rfl, rfl⟩) | (refine Calls.mono (by with_reducible exact HS3.out) ?_; rintro e w' ⟨rfl, rfl⟩)))
            go_ret
            exact ⟨ret_bool (by simp [pollB, h8, h9]), hb⟩
          | true =>
          have HEV : Hid (pollB M M L K T (-1) G Q = decide ((n1 : Int) + (n3 : Int) + 1 ≤ 12)) := (pollB_last h0 h1 h2 h3 h4 h5 (hE1) h8 h9).trans (by rw [evs_len, if_pos ⟨by omega, rfl⟩, HN1.out, HN3.out]; exact decide_eq_decide.2 (by omega))
          go_enter Tryd.func7, Tryd.ntmps7
          go_wp2_with (first | (go_at_call 20; refine (l1In_any _ _ _ _).mono ?_; rintro e w' ⟨rfl, rfl⟩) | (go_at_call 21; first | (refine Calls.mono (by with_reducible exact HS1.out) ?_; rintro e w' ⟨rfl, rfl⟩) | (refine Calls.mono (by with_reducible exact HS3.out) ?_; rintro e w' ⟨rfl, rfl⟩)))
          go_ret
          exact ⟨ret_bool (by rw [HEV.out]), hb⟩
        · have hE' : (E == -1) = false := by simpa using hE
          go_enter Tryd.func7, Tryd.ntmps7
          go_wp2_with (first | (go_at_call 20; refine (l1In_any _ _ _ _).mono ?_; rintro e w' ⟨rfl, rfl⟩) | (go_at_call 21; first | (refine Calls.mono (by with_reducible exact HS1.out) ?_; rintro e w' ⟨rfl, rfl⟩) | (refine Calls.mono (by with_reducible exact HS3.out) ?_; rintro e w' ⟨rfl, rfl⟩)))
          go_ret
          exact ⟨ret_bool (by simp [pollB, hT', hE']), hb⟩
    · have hMS' : (M == S) = false := by simpa using hMS
      cases h0 : inB M 0 1 with
      | false =>
        go_enter Tryd.func7, Tryd.ntmps7
        go_wp2_with (first | (go_at_call 20; refine (l1In_any _ _ _ _).mono ?_; rintro e w' ⟨rfl, rfl⟩) | (go_at_call 21; first | (refine Calls.mono (by with_reducible exact HS1.out) ?_; rintro e w' ⟨rfl, rfl⟩) | (refine Calls.mono (by with_reducible exact HS3.out) ?_; rintro e w' ⟨rfl, rfl⟩)))
        go_ret
        exact ⟨ret_bool (by simp [pollB, h0]), hb⟩
      | true =>
      cases h1 : inB S 0 1 with
      | false =>
        go_enter Tryd.func7, Tryd.ntmps7
        go_wp2_with (first | (go_at_call 20; refine (l1In_any _ _ _ _).mono ?_; rintro e w' ⟨rfl, rfl⟩) | (go_at_call 21; first | (refine Calls.mono (by with_reducible exact HS1.out) ?_; rintro e w' ⟨rfl, rfl⟩) | (refine Calls.mono (by with_reducible exact HS3.out) ?_; rintro e w' ⟨rfl, rfl⟩)))
        go_ret
        exact ⟨ret_bool (by simp [pollB, h1]), hb⟩
      | true =>
      cases h2 : inB K (-1) 1 with
      | false =>
        go_enter Tryd.func7, Tryd.ntmps7
        go_wp2_with (first | (go_at_call 20; refine (l1In_any _ _ _ _).mono ?_; rintro e w' ⟨rfl, rfl⟩) | (go_at_call 21; first | (refine Calls.mono (by with_reducible exact HS1.out) ?_; rintro e w' ⟨rfl, rfl⟩) | (refine Calls.mono (by with_reducible exact HS3.out) ?_; rintro e w' ⟨rfl, rfl⟩)))
        go_ret
        exact ⟨ret_bool (by simp [pollB, h2]), hb⟩
      | true =>
      cases h3 : inB T (-1) 1 with
      | false =>
        go_enter Tryd.func7, Tryd.ntmps7
        go_wp2_with (first | (go_at_call 20; refine (l1In_any _ _ _ _).mono ?_; rintro e w' ⟨rfl, rfl⟩) | (go_at_call 21; first | (refine Calls.mono (by with_reducible exact HS1.out) ?_; rintro e w' ⟨rfl, rfl⟩) | (refine Calls.mono (by with_reducible exact HS3.out) ?_; rintro e w' ⟨rfl, rfl⟩)))
        go_ret
        exact ⟨ret_bool (by simp [pollB, h3]), hb⟩
      | true =>
      cases h4 : inB L (-1) 999 with
      | false =>
        go_enter Tryd.func7, Tryd.ntmps7
        go_wp2_with (first | (go_at_call 20; refine (l1In_any _ _ _ _).mono ?_; rintro e w' ⟨rfl, rfl⟩) | (go_at_call 21; first | (refine Calls.mono (by with_reducible exact HS1.out) ?_; rintro e w' ⟨rfl, rfl⟩) | (refine Calls.mono (by with_reducible exact HS3.out) ?_; rintro e w' ⟨rfl, rfl⟩)))
        go_ret
        exact ⟨ret_bool (by simp [pollB, h4]), hb⟩
      | true =>
      cases h5 : inB E (-1) 999 with
      | false =>
        go_enter Tryd.func7, Tryd.ntmps7
        go_wp2_with (first | (go_at_call 20; refine (l1In_any _ _ _ _).mono ?_; rintro e w' ⟨rfl, rfl⟩) | (go_at_call 21; first | (refine Calls.mono (by with_reducible exact HS1.out) ?_; rintro e w' ⟨rfl, rfl⟩) | (refine Calls.mono (by with_reducible exact HS3.out) ?_; rintro e w' ⟨rfl, rfl⟩)))
        go_ret
        exact ⟨ret_bool (by simp [pollB, h5]), hb⟩
      | true =>
      by_cases hT : 0 ≤ T
      · have hT' : decide ((0 : Int) ≤ T) = true := by simp [hT]
        have hTE : (decide (0 ≤ T) || E == -1) = true := by rw [hT']; rfl
        cases h8 : evB G with
        | false =>
          go_enter Tryd.func7, Tryd.ntmps7
          go_wp2_with (first | (go_at_call 20; refine (l1In_any _ _ _ _).mono ?_; rintro e w' ⟨rfl, rfl⟩) | (go_at_call 21; first | (refine Calls.mono (by with_reducible exact HS1.out) ?_; rintro e w' ⟨rfl, rfl⟩) | (refine Calls.mono (by with_reducible exact HS3.out) ?_; rintro e w' ⟨rfl, rfl⟩)))
          go_ret
          exact ⟨ret_bool (by simp [pollB, h8]), hb⟩
        | true =>
        cases h9 : evB Q with
        | false =>
          go_enter Tryd.func7, Tryd.ntmps7
          go_wp2_with (first | (go_at_call 20; refine (l1In_any _ _ _ _).mono ?_; rintro e w' ⟨rfl, rfl⟩) | (go_at_call 21; first | (refine Calls.mono (by with_reducible exact HS1.out) ?_; rintro e w' ⟨rfl, rfl⟩) | (refine Calls.mono (by with_reducible exact HS3.out) ?_; rintro e w' ⟨rfl, rfl⟩)))
          go_ret
          exact ⟨ret_bool (by simp [pollB, h8, h9]), hb⟩
        | true =>
        have HEV : Hid (pollB M S L K T E G Q = decide ((n1 : Int) + (n3 : Int) ≤ 12)) := (pollB_last h0 h1 h2 h3 h4 h5 (hTE) h8 h9).trans (by rw [evs_len, if_neg (by intro h; exact hMS h.2), HN1.out, HN3.out]; exact decide_eq_decide.2 (by omega))
        go_enter Tryd.func7, Tryd.ntmps7
        go_wp2_with (first | (go_at_call 20; refine (l1In_any _ _ _ _).mono ?_; rintro e w' ⟨rfl, rfl⟩) | (go_at_call 21; first | (refine Calls.mono (by with_reducible exact HS1.out) ?_; rintro e w' ⟨rfl, rfl⟩) | (refine Calls.mono (by with_reducible exact HS3.out) ?_; rintro e w' ⟨rfl, rfl⟩)))
        go_ret
        exact ⟨ret_bool (by rw [HEV.out]), hb⟩
      · have hT' : decide ((0 : Int) ≤ T) = false := by simp [hT]
        by_cases hE : E = -1
        · subst hE
          have hE1 : (decide (0 ≤ T) || (-1 : Int) == -1) = true := by simp
          cases h8 : evB G with
          | false =>
            go_enter Tryd.func7, Tryd.ntmps7
            go_wp2_with (first | (go_at_call 20; refine (l1In_any _ _ _ _).mono ?_; rintro e w' ⟨rfl, rfl⟩) | (go_at_call 21; first | (refine Calls.mono (by with_reducible exact HS1.out) ?_; rintro e w' ⟨rfl, rfl⟩) | (refine Calls.mono (by with_reducible exact HS3.out) ?_; rintro e w' ⟨rfl, rfl⟩)))
            go_ret
            exact ⟨ret_bool (by simp [pollB, h8]), hb⟩
          | true =>
          cases h9 : evB Q with
          | false =>
            go_enter Tryd.func7, Tryd.ntmps7
            go_wp2_with (first | (go_at_call 20; refine (l1In_any _ _ _ _).mono ?_; rintro e w' ⟨rfl, rfl⟩) | (go_at_call 21; first | (refine Calls.mono (by with_reducible exact HS1.out) ?_; rintro e w' ⟨rfl, rfl⟩) | (refine Calls.mono (by with_reducible exact HS3.out) ?_; rintro e w' ⟨rfl, rfl⟩)))
            go_ret
            exact ⟨ret_bool (by simp [pollB, h8, h9]), hb⟩
          | true =>
          have HEV : Hid (pollB M S L K T (-1) G Q = decide ((n1 : Int) + (n3 : Int) ≤ 12)) := (pollB_last h0 h1 h2 h3 h4 h5 (hE1) h8 h9).trans (by rw [evs_len, if_neg (by intro h; exact hMS h.2), HN1.out, HN3.out]; exact decide_eq_decide.2 (by omega))
          go_enter Tryd.func7, Tryd.ntmps7
          go_wp2_with (first | (go_at_call 20; refine (l1In_any _ _ _ _).mono ?_; rintro e w' ⟨rfl, rfl⟩) | (go_at_call 21; first | (refine Calls.mono (by with_reducible exact HS1.out) ?_; rintro e w' ⟨rfl, rfl⟩) | (refine Calls.mono (by with_reducible exact HS3.out) ?_; rintro e w' ⟨rfl, rfl⟩)))
          go_ret
          exact ⟨ret_bool (by rw [HEV.out]), hb⟩
        · have hE' : (E == -1) = false := by simpa using hE
          go_enter Tryd.func7, Tryd.ntmps7
          go_wp2_with (first | (go_at_call 20; refine (l1In_any _ _ _ _).mono ?_; rintro e w' ⟨rfl, rfl⟩) | (go_at_call 21; first | (refine Calls.mono (by with_reducible exact HS1.out) ?_; rintro e w' ⟨rfl, rfl⟩) | (refine Calls.mono (by with_reducible exact HS3.out) ?_; rintro e w' ⟨rfl, rfl⟩)))
          go_ret
          exact ⟨ret_bool (by simp [pollB, hT', hE']), hb⟩
  · have hL' : decide ((0 : Int) ≤ L) = false := by simp [hL]
    cases h0 : inB M 0 1 with
    | false =>
      go_enter Tryd.func7, Tryd.ntmps7
      go_wp2_with (first | (go_at_call 20; refine (l1In_any _ _ _ _).mono ?_; rintro e w' ⟨rfl, rfl⟩) | (go_at_call 21; first | (refine Calls.mono (by with_reducible exact HS1.out) ?_; rintro e w' ⟨rfl, rfl⟩) | (refine Calls.mono (by with_reducible exact HS3.out) ?_; rintro e w' ⟨rfl, rfl⟩)))
      go_ret
      exact ⟨ret_bool (by simp [pollB, h0]), hb⟩
    | true =>
    cases h1 : inB S 0 1 with
    | false =>
      go_enter Tryd.func7, Tryd.ntmps7
      go_wp2_with (first | (go_at_call 20; refine (l1In_any _ _ _ _).mono ?_; rintro e w' ⟨rfl, rfl⟩) | (go_at_call 21; first | (refine Calls.mono (by with_reducible exact HS1.out) ?_; rintro e w' ⟨rfl, rfl⟩) | (refine Calls.mono (by with_reducible exact HS3.out) ?_; rintro e w' ⟨rfl, rfl⟩)))
      go_ret
      exact ⟨ret_bool (by simp [pollB, h1]), hb⟩
    | true =>
    cases h2 : inB K (-1) 1 with
    | false =>
      go_enter Tryd.func7, Tryd.ntmps7
      go_wp2_with (first | (go_at_call 20; refine (l1In_any _ _ _ _).mono ?_; rintro e w' ⟨rfl, rfl⟩) | (go_at_call 21; first | (refine Calls.mono (by with_reducible exact HS1.out) ?_; rintro e w' ⟨rfl, rfl⟩) | (refine Calls.mono (by with_reducible exact HS3.out) ?_; rintro e w' ⟨rfl, rfl⟩)))
      go_ret
      exact ⟨ret_bool (by simp [pollB, h2]), hb⟩
    | true =>
    cases h3 : inB T (-1) 1 with
    | false =>
      go_enter Tryd.func7, Tryd.ntmps7
      go_wp2_with (first | (go_at_call 20; refine (l1In_any _ _ _ _).mono ?_; rintro e w' ⟨rfl, rfl⟩) | (go_at_call 21; first | (refine Calls.mono (by with_reducible exact HS1.out) ?_; rintro e w' ⟨rfl, rfl⟩) | (refine Calls.mono (by with_reducible exact HS3.out) ?_; rintro e w' ⟨rfl, rfl⟩)))
      go_ret
      exact ⟨ret_bool (by simp [pollB, h3]), hb⟩
    | true =>
    cases h4 : inB L (-1) 999 with
    | false =>
      go_enter Tryd.func7, Tryd.ntmps7
      go_wp2_with (first | (go_at_call 20; refine (l1In_any _ _ _ _).mono ?_; rintro e w' ⟨rfl, rfl⟩) | (go_at_call 21; first | (refine Calls.mono (by with_reducible exact HS1.out) ?_; rintro e w' ⟨rfl, rfl⟩) | (refine Calls.mono (by with_reducible exact HS3.out) ?_; rintro e w' ⟨rfl, rfl⟩)))
      go_ret
      exact ⟨ret_bool (by simp [pollB, h4]), hb⟩
    | true =>
    cases h5 : inB E (-1) 999 with
    | false =>
      go_enter Tryd.func7, Tryd.ntmps7
      go_wp2_with (first | (go_at_call 20; refine (l1In_any _ _ _ _).mono ?_; rintro e w' ⟨rfl, rfl⟩) | (go_at_call 21; first | (refine Calls.mono (by with_reducible exact HS1.out) ?_; rintro e w' ⟨rfl, rfl⟩) | (refine Calls.mono (by with_reducible exact HS3.out) ?_; rintro e w' ⟨rfl, rfl⟩)))
      go_ret
      exact ⟨ret_bool (by simp [pollB, h5]), hb⟩
    | true =>
    by_cases hT : 0 ≤ T
    · have hT' : decide ((0 : Int) ≤ T) = true := by simp [hT]
      have hTE : (decide (0 ≤ T) || E == -1) = true := by rw [hT']; rfl
      cases h8 : evB G with
      | false =>
        go_enter Tryd.func7, Tryd.ntmps7
        go_wp2_with (first | (go_at_call 20; refine (l1In_any _ _ _ _).mono ?_; rintro e w' ⟨rfl, rfl⟩) | (go_at_call 21; first | (refine Calls.mono (by with_reducible exact HS1.out) ?_; rintro e w' ⟨rfl, rfl⟩) | (refine Calls.mono (by with_reducible exact HS3.out) ?_; rintro e w' ⟨rfl, rfl⟩)))
        go_ret
        exact ⟨ret_bool (by simp [pollB, h8]), hb⟩
      | true =>
      cases h9 : evB Q with
      | false =>
        go_enter Tryd.func7, Tryd.ntmps7
        go_wp2_with (first | (go_at_call 20; refine (l1In_any _ _ _ _).mono ?_; rintro e w' ⟨rfl, rfl⟩) | (go_at_call 21; first | (refine Calls.mono (by with_reducible exact HS1.out) ?_; rintro e w' ⟨rfl, rfl⟩) | (refine Calls.mono (by with_reducible exact HS3.out) ?_; rintro e w' ⟨rfl, rfl⟩)))
        go_ret
        exact ⟨ret_bool (by simp [pollB, h8, h9]), hb⟩
      | true =>
      have HEV : Hid (pollB M S L K T E G Q = decide ((n1 : Int) + (n3 : Int) ≤ 12)) := (pollB_last h0 h1 h2 h3 h4 h5 (hTE) h8 h9).trans (by rw [evs_len, if_neg (by have := (inB_iff L (-1) 999).1 h4; omega), HN1.out, HN3.out]; exact decide_eq_decide.2 (by omega))
      go_enter Tryd.func7, Tryd.ntmps7
      go_wp2_with (first | (go_at_call 20; refine (l1In_any _ _ _ _).mono ?_; rintro e w' ⟨rfl, rfl⟩) | (go_at_call 21; first | (refine Calls.mono (by with_reducible exact HS1.out) ?_; rintro e w' ⟨rfl, rfl⟩) | (refine Calls.mono (by with_reducible exact HS3.out) ?_; rintro e w' ⟨rfl, rfl⟩)))
      go_ret
      exact ⟨ret_bool (by rw [HEV.out]), hb⟩
    · have hT' : decide ((0 : Int) ≤ T) = false := by simp [hT]
      by_cases hE : E = -1
      · subst hE
        have hE1 : (decide (0 ≤ T) || (-1 : Int) == -1) = true := by simp
        cases h8 : evB G with
        | false =>
          go_enter Tryd.func7, Tryd.ntmps7
          go_wp2_with (first | (go_at_call 20; refine (l1In_any _ _ _ _).mono ?_; rintro e w' ⟨rfl, rfl⟩) | (go_at_call 21; first | (refine Calls.mono (by with_reducible exact HS1.out) ?_; rintro e w' ⟨rfl, rfl⟩) | (refine Calls.mono (by with_reducible exact HS3.out) ?_; rintro e w' ⟨rfl, rfl⟩)))
          go_ret
          exact ⟨ret_bool (by simp [pollB, h8]), hb⟩
        | true =>
        cases h9 : evB Q with
        | false =>
          go_enter Tryd.func7, Tryd.ntmps7
          go_wp2_with (first | (go_at_call 20; refine (l1In_any _ _ _ _).mono ?_; rintro e w' ⟨rfl, rfl⟩) | (go_at_call 21; first | (refine Calls.mono (by with_reducible exact HS1.out) ?_; rintro e w' ⟨rfl, rfl⟩) | (refine Calls.mono (by with_reducible exact HS3.out) ?_; rintro e w' ⟨rfl, rfl⟩)))
          go_ret
          exact ⟨ret_bool (by simp [pollB, h8, h9]), hb⟩
        | true =>
        have HEV : Hid (pollB M S L K T (-1) G Q = decide ((n1 : Int) + (n3 : Int) ≤ 12)) := (pollB_last h0 h1 h2 h3 h4 h5 (hE1) h8 h9).trans (by rw [evs_len, if_neg (by have := (inB_iff L (-1) 999).1 h4; omega), HN1.out, HN3.out]; exact decide_eq_decide.2 (by omega))
        go_enter Tryd.func7, Tryd.ntmps7
        go_wp2_with (first | (go_at_call 20; refine (l1In_any _ _ _ _).mono ?_; rintro e w' ⟨rfl, rfl⟩) | (go_at_call 21; first | (refine Calls.mono (by with_reducible exact HS1.out) ?_; rintro e w' ⟨rfl, rfl⟩) | (refine Calls.mono (by with_reducible exact HS3.out) ?_; rintro e w' ⟨rfl, rfl⟩)))
        go_ret
        exact ⟨ret_bool (by rw [HEV.out]), hb⟩
      · have hE' : (E == -1) = false := by simpa using hE
        go_enter Tryd.func7, Tryd.ntmps7
        go_wp2_with (first | (go_at_call 20; refine (l1In_any _ _ _ _).mono ?_; rintro e w' ⟨rfl, rfl⟩) | (go_at_call 21; first | (refine Calls.mono (by with_reducible exact HS1.out) ?_; rintro e w' ⟨rfl, rfl⟩) | (refine Calls.mono (by with_reducible exact HS3.out) ?_; rintro e w' ⟨rfl, rfl⟩)))
        go_ret
        exact ⟨ret_bool (by simp [pollB, hT', hE']), hb⟩
end Go.Proofs.YthekihggedgofaaDoor
