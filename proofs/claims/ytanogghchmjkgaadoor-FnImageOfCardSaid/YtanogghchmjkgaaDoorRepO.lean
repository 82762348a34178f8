/- Contracts of ReportsOf, of the reference and of the program. No statement is proved here. -/
import Derived.Test.YtanogghchmjkgaaDoorRepV
import Derived.Test.YtanogghchmjkgaaDoorSnReport
import Derived.Maps.AppendAt
namespace Go.Proofs.YtanogghchmjkgaaDoor
open Go.RowKit

def far (a b : Int) : Int := if a - b < b - a then b - a else a - b

theorem specFar (a b : Int) (w : World) (ha : 0 ≤ a) (ha' : a ≤ 999) (hb : 0 ≤ b) (hb' : b ≤ 999) :
    Calls Tryd.prog 35 #[.int .i64 a, .int .i64 b] w fun e w' => e = .returned (.int .i64 (far a b)) ∧ w = w' := by
  go_enter Tryd.func35, Tryd.ntmps35
  go_wp2_with fail
  all_goals (go_ret; exact ⟨ret_int (by unfold far; split <;> omega), rfl⟩)
theorem implFar (a b : Int) (w : World) (ha : 0 ≤ a) (ha' : a ≤ 999) (hb : 0 ≤ b) (hb' : b ≤ 999) :
    Calls Tryd.prog 33 #[.int .i64 a, .int .i64 b] w fun e w' => e = .returned (.int .i64 (far a b)) ∧ w = w' := by
  go_enter Tryd.func33, Tryd.ntmps33
  go_wp2_with fail
  all_goals (go_ret; exact ⟨ret_int (by unfold far; split <;> omega), rfl⟩)

/-- the reports of the first k samples -/
def repsTo (xs : List Int) (band : Int) : Nat → List Report
  | 0 => []
  | k + 1 => if k = 0 ∨ band < far (xs.getD k 0) ((repsTo xs band k).getD ((repsTo xs band k).length - 1) Report.zero).fValue then repsTo xs band k ++ [⟨k, xs.getD k 0⟩] else repsTo xs band k
def reps (xs : List Int) (band : Int) : List Report := if smpB xs && inB band 0 999 then repsTo xs band xs.length else []

theorem repsTo_add (xs : List Int) (band : Int) (k : Nat) (h : k = 0 ∨ band < far (xs.getD k 0) ((repsTo xs band k).getD ((repsTo xs band k).length - 1) Report.zero).fValue) : repsTo xs band (k + 1) = repsTo xs band k ++ [⟨k, xs.getD k 0⟩] := by
  rw [repsTo, if_pos h]
theorem repsTo_same (xs : List Int) (band : Int) (k : Nat) (h : ¬ (k = 0 ∨ band < far (xs.getD k 0) ((repsTo xs band k).getD ((repsTo xs band k).length - 1) Report.zero).fValue)) : repsTo xs band (k + 1) = repsTo xs band k := by
  rw [repsTo, if_neg h]
theorem repsTo_length (xs : List Int) (band : Int) (k : Nat) : (repsTo xs band k).length ≤ k := by
  induction k with
  | zero => simp [repsTo]
  | succ k ih =>
    rw [repsTo]; split
    · simp; omega
    · omega
theorem repsTo_pos (xs : List Int) (band : Int) (k : Nat) (h : 0 < k) : 0 < (repsTo xs band k).length := by
  induction k with
  | zero => omega
  | succ k ih =>
    rw [repsTo]; split
    · simp
    · exact ih (by omega)
theorem smp_val {xs : List Int} (h : smpB xs = true) {k : Nat} (hk : k < xs.length) : 0 ≤ xs.getD k 0 ∧ xs.getD k 0 ≤ 999 := by
  have := (Bool.and_eq_true_iff.1 h).1
  rw [List.all_eq_true] at this
  have := (inB_iff _ _ _).1 (this _ (List.getElem_mem hk))
  simpa [hk] using this
theorem smp_len {xs : List Int} (h : smpB xs = true) : xs.length ≤ 20 := by
  simpa using (Bool.and_eq_true_iff.1 h).2
theorem repsTo_val {xs : List Int} (band : Int) (h : smpB xs = true) (k : Nat) (hk : k ≤ xs.length) : ∀ r ∈ repsTo xs band k, 0 ≤ r.fValue ∧ r.fValue ≤ 999 := by
  induction k with
  | zero => simp [repsTo]
  | succ k ih =>
    intro r hr
    rw [repsTo] at hr
    split at hr
    · rw [List.mem_append] at hr
      rcases hr with hr | hr
      · exact ih (by omega) r hr
      · simp only [List.mem_singleton] at hr
        subst hr
        exact smp_val h (by omega)
    · exact ih (by omega) r hr
theorem repsTo_last {xs : List Int} (band : Int) (h : smpB xs = true) (k : Nat) (hk : k ≤ xs.length) (h0 : 0 < k) : 0 ≤ ((repsTo xs band k).getD ((repsTo xs band k).length - 1) Report.zero).fValue ∧ ((repsTo xs band k).getD ((repsTo xs band k).length - 1) Report.zero).fValue ≤ 999 := by
  have hp := repsTo_pos xs band k h0
  have hl : (repsTo xs band k).length - 1 < (repsTo xs band k).length := by omega
  have := repsTo_val band h k hk _ (List.getElem_mem hl)
  simpa [hl] using this

theorem reps_len (xs : List Int) (band : Int) : (reps xs band).length ≤ 1048576 := by
  unfold reps; split
  · next h => have := smp_len (Bool.and_eq_true_iff.1 h).1; have := repsTo_length xs band xs.length; omega
  · simp

set_option maxHeartbeats 1000000 in
theorem specRO_ok (A : Option Addr) (n c : Nat) (xs : List Int) (band : Int) (w : World) (hn : xs.length = n) (hA : Rd w A (ints xs)) (hv : smpB xs = true) (hb : inB band 0 999 = true) :
    Calls Tryd.prog 16 #[.slice A n c, .int .i64 band] w (RetS 31 2 (flatReport (repsTo xs band n)) (repsTo xs band n).length w) := by
  have hn20 := smp_len hv
  have HA := Lib.hid hA; clear hA
  have HN := Lib.hid hn
  have hm : n ≤ 20 := by omega
  clear hn hn20
  have HV := Lib.hid hv
  obtain ⟨i0, hi0, hz0, hz1, hz2⟩ := info_parts info_Report
  have HI := Lib.hid (And.intro hi0 (And.intro hz0 (And.intro hz1 hz2))); clear hi0 hz0 hz1 hz2
  go_enter Tryd.func16, Tryd.ntmps16
  go_wp2_with fail
  have hown0 : (w.alloc (Obj.cells #[] 31)).ownsRow w.heap.size 31 2 (.slice (some ⟨w.heap.size, 0, none⟩) 0 0) 0 [] :=
    World.ownsRow_lit w #[] 0 (Nat.le_refl _) (Nat.zero_le _) rfl
  have hb0 : Below w.heap.size w (w.alloc (Obj.cells #[] 31)) := allocB (Below.refl _ _) _
  go_loopw [5, 6] (fun v i wr => ∃ k : Nat, k ≤ n ∧ i = .int .i64 k ∧ (∃ B c', v = .slice B (repsTo xs band k).length c' ∧ wr.ownsRow w.heap.size 31 2 (.slice B (repsTo xs band k).length c') (repsTo xs band k).length (flatReport (repsTo xs band k))) ∧ Below w.heap.size w wr) (fun _ i _ => n - (intOf i).toNat)
  case atStart => exact ⟨0, by omega, rfl, ⟨_, _, rfl, hown0⟩, hb0⟩
  case round =>
    clear hown0 hb0
    obtain ⟨k, hk, rfl, ⟨B, c', rfl, hown⟩, hbw⟩ := hrel
    by_cases hlt : k < n
    · have hA' : Rd wr A (ints xs) := HA.out.below hbw
      obtain ⟨b, o, rfl, hbl, hck⟩ := hA'.int (k := k) (by have := HN.out; omega)
      obtain ⟨hx0, hx1⟩ := smp_val HV.out (k := k) (by have := HN.out; omega)
      have hlen := repsTo_length xs band k
      by_cases hk0 : k ≤ 0
      · have hz : ((k : Int) == 0) = true := by simp; omega
        have HS := Lib.hid (repsTo_add xs band k (.inl (by omega)))
        have HAo := Lib.hid hA'; clear hA'
        generalize xs.getD k 0 = x at *
        generalize repsTo xs band k = acc at *
        go_wp2_with (first | (go_at_call 21; refine (specSV _ _ _ xs _ HN.out (by omega) HAo.out).mono ?_; rintro e w' ⟨rfl, rfl⟩) | (go_at_call 29; refine (l1In_any _ _ _ _).mono ?_; rintro e w' ⟨rfl, rfl⟩))
        go_quiet (fail)
        have hown2 : (wr.drewN nq).ownsRow _ _ _ _ _ _ := hown
        have hbw2 := drewNB hbw nq
        have hck2 : (wr.drewN nq).cell? ⟨b, o + k, none⟩ = _ := hck
        clear hown hbw hck hbl HAo
        generalize wr.drewN nq = w2 at *
        go_wp2_with (at_builtin; refine wpList_app1 w2 rfl _ _ _ rfl w.heap.size 31 i0 _ 2 16 Tryd.underlying23 HI.out rfl (by omega) (.slice B acc.length c') acc.length (flatReport acc) rfl hown2 #[.int .i64 k, .int .i64 x] rfl rfl (by simp [Value.oneCell']) (by omega) (by omega) hbw2.size ?_; intro v' w3 hown3 hg3)
        have hbw3 := row_alloc_grown hbw2 rfl hown2 hg3
        clear hbw2 hown2 hg3
        go_roundw
        case rel => exact ⟨k + 1, by omega, by go_num, snocReport (r := ⟨k, x⟩) hown3 HS.out, hbw3⟩
        case measure => simp [intOf]; omega
      · have hz : ((k : Int) == 0) = false := by simp; omega
        obtain ⟨hy0, hy1⟩ := repsTo_last band HV.out k (by have := HN.out; omega) (by omega)
        have hpos := repsTo_pos xs band k (by omega)
        have HS1 := Lib.hid (fun h => repsTo_add xs band k (.inr h))
        have HS2 := Lib.hid (fun h => repsTo_same xs band k h)
        obtain ⟨g, og, rfl, hgl, _, hlast⟩ := (rd_of_row hown).atReport (k := (repsTo xs band k).length - 1) (by omega)
        have HAo := Lib.hid hA'; clear hA'
        generalize xs.getD k 0 = x at *
        generalize repsTo xs band k = acc at *
        generalize acc.getD (acc.length - 1) Report.zero = r at *
        by_cases hf : band < far x r.fValue
        · have hfd : decide (band < far x r.fValue) = true := by simpa using hf
          have HS := Lib.hid (HS1.out hf)
          clear HS1 HS2
          go_wp2_with (first | (go_at_call 21; refine (specSV _ _ _ xs _ HN.out (by omega) HAo.out).mono ?_; rintro e w' ⟨rfl, rfl⟩) | (go_at_call 29; refine (l1In_any _ _ _ _).mono ?_; rintro e w' ⟨rfl, rfl⟩))
          go_quiet ((go_at_call 35; exact quiet_left (specFar _ _ _ (by omega) (by omega) (by omega) (by omega))))
          have hown2 : (wr.drewN nq).ownsRow _ _ _ _ _ _ := hown
          have hbw2 := drewNB hbw nq
          have hck2 : (wr.drewN nq).cell? ⟨b, o + k, none⟩ = _ := hck
          clear hown hbw hck hbl HAo hlast hgl
          generalize wr.drewN nq = w2 at *
          go_wp2_with (at_builtin; refine wpList_app1 w2 rfl _ _ _ rfl w.heap.size 31 i0 _ 2 16 Tryd.underlying23 HI.out rfl (by omega) (.slice (some ⟨g, og, none⟩) acc.length c') acc.length (flatReport acc) rfl hown2 #[.int .i64 k, .int .i64 x] rfl rfl (by simp [Value.oneCell']) (by omega) (by omega) hbw2.size ?_; intro v' w3 hown3 hg3)
          have hbw3 := row_alloc_grown hbw2 rfl hown2 hg3
          clear hbw2 hown2 hg3
          go_roundw
          case rel => exact ⟨k + 1, by omega, by go_num, snocReport (r := ⟨k, x⟩) hown3 HS.out, hbw3⟩
          case measure => simp [intOf]; omega
        · have hfd : decide (band < far x r.fValue) = false := by simpa using hf
          have HS := Lib.hid (HS2.out (by rintro (h | h) <;> omega))
          clear HS1 HS2
          go_wp2_with (first | (go_at_call 21; refine (specSV _ _ _ xs _ HN.out (by omega) HAo.out).mono ?_; rintro e w' ⟨rfl, rfl⟩) | (go_at_call 29; refine (l1In_any _ _ _ _).mono ?_; rintro e w' ⟨rfl, rfl⟩))
          go_quiet ((go_at_call 35; exact quiet_left (specFar _ _ _ (by omega) (by omega) (by omega) (by omega))))
          go_wp2_with fail
          go_roundw
          case rel => exact ⟨k + 1, by omega, by go_num, by rw [HS.out]; exact ⟨_, _, rfl, hown⟩, drewNB hbw nq⟩
          case measure => simp [intOf]; omega
    · go_wp2_with fail
      go_ret
      have hkn : k = n := by omega
      subst hkn
      obtain ⟨B', c2, e, ho⟩ := own_of_row hown
      cases e
      exact ⟨_, _, rfl, ho, hbw⟩

set_option maxHeartbeats 1000000 in
theorem specRO (A : Option Addr) (n c : Nat) (xs : List Int) (band : Int) (w : World) (hn : xs.length = n) (hm : n ≤ 1048576) (hA : Rd w A (ints xs)) :
    Calls Tryd.prog 16 #[.slice A n c, .int .i64 band] w (RetS 31 2 (flatReport (reps xs band)) (reps xs band).length w) := by
  cases hv : smpB xs with
  | true =>
    cases hb : inB band 0 999 with
    | true =>
      rw [reps, hv, hb]
      have := specRO_ok A n c xs band w hn hA hv hb
      rw [← hn] at this ⊢
      exact this
    | false =>
      rw [reps, hv, hb]
      have HA := Lib.hid hA; clear hA
      have HN := Lib.hid hn; clear hn
      by_cases h0 : n ≤ 0
      · go_enter Tryd.func16, Tryd.ntmps16
        go_wp2_with fail
        refine wp_loop_rounds 1 ?_
        rw [rounds_succ]
        go_wp2_with fail
        go_ret
        exact ⟨_, _, rfl, Own.nil, allocB (Below.refl _ _) _⟩
      · go_enter Tryd.func16, Tryd.ntmps16
        go_wp2_with fail
        refine wp_loop_rounds 1 ?_
        rw [rounds_succ]
        go_wp2_with (first | (go_at_call 21; refine (specSV _ _ _ xs _ HN.out hm (HA.out.below (allocB (Below.refl _ _) _))).mono ?_; rintro e w' ⟨rfl, rfl⟩) | (go_at_call 29; refine (l1In_any _ _ _ _).mono ?_; rintro e w' ⟨rfl, rfl⟩))
        go_ret
        exact ⟨_, _, rfl, Own.nil, allocB (Below.refl _ _) _⟩
  | false =>
    rw [reps, hv]
    have HA := Lib.hid hA; clear hA
    have HN := Lib.hid hn; clear hn
    by_cases h0 : n ≤ 0
    · go_enter Tryd.func16, Tryd.ntmps16
      go_wp2_with fail
      refine wp_loop_rounds 1 ?_
      rw [rounds_succ]
      go_wp2_with fail
      go_ret
      exact ⟨_, _, rfl, Own.nil, allocB (Below.refl _ _) _⟩
    · go_enter Tryd.func16, Tryd.ntmps16
      go_wp2_with fail
      refine wp_loop_rounds 1 ?_
      rw [rounds_succ]
      go_wp2_with (first | (go_at_call 21; refine (specSV _ _ _ xs _ HN.out hm (HA.out.below (allocB (Below.refl _ _) _))).mono ?_; rintro e w' ⟨rfl, rfl⟩) | (go_at_call 29; refine (l1In_any _ _ _ _).mono ?_; rintro e w' ⟨rfl, rfl⟩))
      go_ret
      exact ⟨_, _, rfl, Own.nil, allocB (Below.refl _ _) _⟩

set_option maxHeartbeats 1000000 in
theorem implRO_ok (A : Option Addr) (n c : Nat) (xs : List Int) (band : Int) (w : World) (hn : xs.length = n) (hA : Rd w A (ints xs)) (hv : smpB xs = true) (hb : inB band 0 999 = true) :
    Calls Tryd.prog 13 #[.slice A n c, .int .i64 band] w (RetS 31 2 (flatReport (repsTo xs band n)) (repsTo xs band n).length w) := by
  have hn20 := smp_len hv
  have HA := Lib.hid hA; clear hA
  have HN := Lib.hid hn
  have hm : n ≤ 20 := by omega
  clear hn hn20
  have HV := Lib.hid hv
  obtain ⟨i0, hi0, hz0, hz1, hz2⟩ := info_parts info_Report
  have HI := Lib.hid (And.intro hi0 (And.intro hz0 (And.intro hz1 hz2))); clear hi0 hz0 hz1 hz2
  go_enter Tryd.func13, Tryd.ntmps13
  go_wp2_with (first | (go_at_call 20; refine (implSV _ _ _ xs _ HN.out (by omega) HA.out).mono ?_; rintro e w' ⟨rfl, rfl⟩) | (go_at_call 32; refine (pv_any _ _).mono ?_; rintro e w' ⟨rfl, rfl⟩))
  have hown0 : w.ownsRow w.heap.size 31 2 (.slice none 0 0) 0 [] := ⟨by simp, .inl ⟨rfl, rfl⟩⟩
  have hb0 : Below w.heap.size w w := Below.refl _ _
  go_loopw [5, 18] (fun v i wr => ∃ k : Nat, k ≤ n ∧ i = .int .i64 k ∧ (∃ B c', v = .slice B (repsTo xs band k).length c' ∧ wr.ownsRow w.heap.size 31 2 (.slice B (repsTo xs band k).length c') (repsTo xs band k).length (flatReport (repsTo xs band k))) ∧ Below w.heap.size w wr) (fun _ i _ => n - (intOf i).toNat)
  case atStart => exact ⟨0, by omega, rfl, ⟨_, _, rfl, hown0⟩, hb0⟩
  case round =>
    clear hown0 hb0
    obtain ⟨k, hk, rfl, ⟨B, c', rfl, hown⟩, hbw⟩ := hrel
    by_cases hlt : k < n
    · have hA' : Rd wr A (ints xs) := HA.out.below hbw
      obtain ⟨b, o, rfl, hbl, hck⟩ := hA'.int (k := k) (by have := HN.out; omega)
      obtain ⟨hx0, hx1⟩ := smp_val HV.out (k := k) (by have := HN.out; omega)
      have hlen := repsTo_length xs band k
      clear hA'
      by_cases hk0 : k ≤ 0
      · have hz : ((k : Int) == 0) = true := by simp; omega
        have HS := Lib.hid (repsTo_add xs band k (.inl (by omega)))
        generalize xs.getD k 0 = x at *
        generalize repsTo xs band k = acc at *
        go_wp2_with (at_builtin; refine wpList_app1 wr rfl _ _ _ rfl w.heap.size 31 i0 _ 2 16 Tryd.underlying23 HI.out rfl (by omega) (.slice B acc.length c') acc.length (flatReport acc) rfl hown #[.int .i64 k, .int .i64 x] rfl rfl (by simp [Value.oneCell']) (by omega) (by omega) hbw.size ?_; intro v' w3 hown3 hg3)
        have hbw3 := row_alloc_grown hbw rfl hown hg3
        clear hbw hown hg3
        go_roundw
        case rel => exact ⟨k + 1, by omega, by go_num, snocReport (r := ⟨k, x⟩) hown3 HS.out, hbw3⟩
        case measure => simp [intOf]; omega
      · have hz : ((k : Int) == 0) = false := by simp; omega
        obtain ⟨hy0, hy1⟩ := repsTo_last band HV.out k (by have := HN.out; omega) (by omega)
        have hpos := repsTo_pos xs band k (by omega)
        have HS1 := Lib.hid (fun h => repsTo_add xs band k (.inr h))
        have HS2 := Lib.hid (fun h => repsTo_same xs band k h)
        obtain ⟨g, og, rfl, hgl, _, hlast⟩ := (rd_of_row hown).atReport (k := (repsTo xs band k).length - 1) (by omega)
        generalize xs.getD k 0 = x at *
        generalize repsTo xs band k = acc at *
        generalize acc.getD (acc.length - 1) Report.zero = r at *
        by_cases hf : band < far x r.fValue
        · have hfd : decide (band < far x r.fValue) = true := by simpa using hf
          have HS := Lib.hid (HS1.out hf)
          clear HS1 HS2
          go_wp2_with (first | (go_at_call 33; refine (implFar _ _ _ (by omega) (by omega) (by omega) (by omega)).mono ?_; rintro e w' ⟨rfl, rfl⟩) | (at_builtin; refine wpList_app1 wr rfl _ _ _ rfl w.heap.size 31 i0 _ 2 16 Tryd.underlying23 HI.out rfl (by omega) (.slice (some ⟨g, og, none⟩) acc.length c') acc.length (flatReport acc) rfl hown #[.int .i64 k, .int .i64 x] rfl rfl (by simp [Value.oneCell']) (by omega) (by omega) hbw.size ?_; intro v' w3 hown3 hg3))
          have hbw3 := row_alloc_grown hbw rfl hown hg3
          clear hbw hown hg3
          go_roundw
          case rel => exact ⟨k + 1, by omega, by go_num, snocReport (r := ⟨k, x⟩) hown3 HS.out, hbw3⟩
          case measure => simp [intOf]; omega
        · have hfd : decide (band < far x r.fValue) = false := by simpa using hf
          have HS := Lib.hid (HS2.out (by rintro (h | h) <;> omega))
          clear HS1 HS2
          go_wp2_with (go_at_call 33; refine (implFar _ _ _ (by omega) (by omega) (by omega) (by omega)).mono ?_; rintro e w' ⟨rfl, rfl⟩)
          go_roundw
          case rel => exact ⟨k + 1, by omega, by go_num, by rw [HS.out]; exact ⟨_, _, rfl, hown⟩, hbw⟩
          case measure => simp [intOf]; omega
    · go_wp2_with fail
      go_ret
      have hkn : k = n := by omega
      subst hkn
      obtain ⟨B', c2, e, ho⟩ := own_of_row hown
      cases e
      exact ⟨_, _, rfl, ho, hbw⟩

set_option maxHeartbeats 1000000 in
theorem implRO (A : Option Addr) (n c : Nat) (xs : List Int) (band : Int) (w : World) (hn : xs.length = n) (hm : n ≤ 1048576) (hA : Rd w A (ints xs)) :
    Calls Tryd.prog 13 #[.slice A n c, .int .i64 band] w (RetS 31 2 (flatReport (reps xs band)) (reps xs band).length w) := by
  cases hv : smpB xs with
  | true =>
    cases hb : inB band 0 999 with
    | true =>
      rw [reps, hv, hb]
      have := implRO_ok A n c xs band w hn hA hv hb
      rw [← hn] at this ⊢
      exact this
    | false =>
      rw [reps, hv, hb]
      have HA := Lib.hid hA; clear hA
      have HN := Lib.hid hn; clear hn
      go_enter Tryd.func13, Tryd.ntmps13
      go_wp2_with (first | (go_at_call 20; refine (implSV _ _ _ xs _ HN.out hm HA.out).mono ?_; rintro e w' ⟨rfl, rfl⟩) | (go_at_call 32; refine (pv_any _ _).mono ?_; rintro e w' ⟨rfl, rfl⟩))
      go_ret
      exact ⟨_, _, rfl, Own.nil, Below.refl _ _⟩
  | false =>
    rw [reps, hv]
    have HA := Lib.hid hA; clear hA
    have HN := Lib.hid hn; clear hn
    go_enter Tryd.func13, Tryd.ntmps13
    go_wp2_with (first | (go_at_call 20; refine (implSV _ _ _ xs _ HN.out hm HA.out).mono ?_; rintro e w' ⟨rfl, rfl⟩) | (go_at_call 32; refine (pv_any _ _).mono ?_; rintro e w' ⟨rfl, rfl⟩))
    go_ret
    exact ⟨_, _, rfl, Own.nil, Below.refl _ _⟩
end Go.Proofs.YtanogghchmjkgaaDoor
