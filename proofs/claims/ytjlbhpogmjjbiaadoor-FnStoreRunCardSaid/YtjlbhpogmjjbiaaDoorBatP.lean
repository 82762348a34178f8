/- Contracts of PeakOf, of the reference and of the program. No statement is proved here. -/
import Derived.Test.YtjlbhpogmjjbiaaDoorBatR
namespace Go.Proofs.YtjlbhpogmjjbiaaDoor
open Go.RowKit

theorem peakV_no {s r l : Int} {xs ys : List Int} (h : ((stAll s r l ys).isSome && loadsB xs && decide (xs.length = ys.length)) = false) : peakV s r l xs ys = -1 := by rw [peakV, h]; rfl
theorem peakV_ok {s r l : Int} {xs ys : List Int} (h : (stAll s r l ys).isSome = true) (h2 : loadsB xs = true) (h3 : xs.length = ys.length) : peakV s r l xs ys = peakL 0 xs ys := by rw [peakV, h, h2, h3]; simp
theorem stAll_each {s r l : Int} {xs : List Int} (h : (stAll s r l xs).isSome = true) : batB s r l = true ∧ xs.length ≤ 12 ∧ ∀ k, k < xs.length → -999 ≤ xs.getD k 0 ∧ xs.getD k 0 ≤ 999 := by
  unfold stAll at h
  split at h
  · rename_i hc
    rw [Bool.and_eq_true, decide_eq_true_eq] at hc
    refine ⟨hc.1, hc.2, fun k hk => ?_⟩
    have := stRun_each h k hk
    have := bat_of hc.1
    omega
  · cases h
theorem loads_each {xs : List Int} (h : loadsB xs = true) {k : Nat} (hk : k < xs.length) : 0 ≤ xs.getD k 0 ∧ xs.getD k 0 ≤ 999 := by
  rw [loadsB, Bool.and_eq_true, List.all_eq_true] at h
  have := h.1 xs[k] (List.getElem_mem hk)
  simpa [inB, hk] using this
theorem loads_len {xs : List Int} (h : loadsB xs = true) : xs.length ≤ 12 := by
  rw [loadsB, Bool.and_eq_true, decide_eq_true_eq] at h; exact h.2
theorem max_of (a b : Int) : (if a < b then b else a) = max a b := by split <;> omega
theorem min_of (a b : Int) : (if b < a then b else a) = min a b := by split <;> omega
def IsInt (v : Int) (w : World) (e : Ending) (w' : World) : Prop := e = .returned (.int .i64 v) ∧ Below w.heap.size w w'
theorem isInt_of {u v : Int} {w w' : World} (h : u = v) (hb : Below w.heap.size w w') : IsInt v w (.returned (.int .i64 u)) w' := by subst h; exact ⟨rfl, hb⟩

set_option maxHeartbeats 2000000 in
theorem specPO (A B : Option Addr) (n c m d : Nat) (s r l : Int) (xs ys : List Int) (w : World) (hn : xs.length = n) (hn' : ys.length = m) (hm : n ≤ 1048576) (hm' : m ≤ 1048576) (hA : Rd w A (ints xs)) (hB : Rd w B (ints ys)) :
    Calls Tryd.prog 18 #[.agg #[.int .i64 s, .int .i64 r, .int .i64 l], .slice A n c, .slice B m d] w (IsInt (peakV s r l xs ys) w) := by
  have HA := Lib.hid hA; clear hA
  have HN := Lib.hid hn; clear hn
  have HB := Lib.hid hB; clear hB
  have HN' := Lib.hid hn'; clear hn'
  have hbx : Below w.heap.size w (w.alloc (.cells #[.int .i64 s, .int .i64 r, .int .i64 l] 24)) := allocB (Below.refl _ _) _
  have HX := Lib.hid hbx
  cases ho : (stAll s r l ys).isSome with
  | false =>
    have HO := Lib.hid (peakV_no (s := s) (r := r) (l := l) (xs := xs) (ys := ys) (by rw [ho]; rfl))
    go_enter Tryd.func18, Tryd.ntmps18
    go_wp2_with (go_at_call 14; refine (specSR _ _ _ _ _ _ ys _ HN'.out hm' (HB.out.below HX.out)).mono ?_; rintro e w1 ⟨rfl, hb1⟩)
    go_ret
    exact isInt_of HO.out.symm (seqB hbx hb1)
  | true =>
    cases hl : loadsB xs with
    | false =>
      have HO := Lib.hid (peakV_no (s := s) (r := r) (l := l) (xs := xs) (ys := ys) (by rw [hl]; simp))
      go_enter Tryd.func18, Tryd.ntmps18
      go_wp2_with (first | (go_at_call 14; refine (specSR _ _ _ _ _ _ ys _ HN'.out hm' (HB.out.below HX.out)).mono ?_; rintro e w1 ⟨rfl, hb1⟩; replace HX := Lib.hid (seqB HX.out hb1); replace hbx := seqB hbx hb1; clear hb1) | (go_at_call 37; refine (specLd _ _ _ xs _ HN.out hm (HA.out.below HX.out)).mono ?_; rintro e w' ⟨rfl, rfl⟩))
      go_ret
      exact isInt_of HO.out.symm hbx
    | true =>
      by_cases hlen : n = m
      · subst hlen
        have hne : ((n : Int) != (n : Int)) = false := by simp
        obtain ⟨_, h12, hy⟩ := stAll_each ho
        have HO := Lib.hid (peakV_ok ho hl (by have := HN.out; have := HN'.out; omega))
        have HY := Lib.hid hy; clear hy
        have HL := Lib.hid hl
        replace h12 : n ≤ 12 := by have := HN'.out; omega
        go_enter Tryd.func18, Tryd.ntmps18
        go_wp2_with (first | (go_at_call 14; refine (specSR _ _ _ _ _ _ ys _ HN'.out hm' (HB.out.below HX.out)).mono ?_; rintro e w1 ⟨rfl, hb1⟩; replace HX := Lib.hid (seqB HX.out hb1); replace hbx := seqB hbx hb1; clear hb1) | (go_at_call 37; refine (specLd _ _ _ xs _ HN.out hm (HA.out.below HX.out)).mono ?_; rintro e w' ⟨rfl, rfl⟩))
        go_loopw [9, 10] (fun q i wr => ∃ (k : Nat) (p : Int), k ≤ n ∧ i = .int .i64 k ∧ q = .int .i64 p ∧ 0 ≤ p ∧ p ≤ 2000 ∧ Hid (peakL 0 xs ys = peakL p (xs.drop k) (ys.drop k)) ∧ Below w.heap.size w wr) (fun _ i _ => n - (intOf i).toNat)
        case atStart => exact ⟨0, 0, by omega, rfl, rfl, by omega, by omega, rfl, hbx⟩
        case round =>
          clear hbx HX
          obtain ⟨k, p, hk, rfl, rfl, p0, p1, hp, hbw⟩ := hrel
          by_cases hlt : k < n
          · obtain ⟨b, o, rfl, _, hck⟩ := (HA.out.below hbw).int (k := k) (by have := HN.out; omega)
            obtain ⟨b2, o2, rfl, _, hck2⟩ := (HB.out.below hbw).int (k := k) (by have := HN'.out; omega)
            have HS := Lib.hid (peakL_drop (p := p) (xs := xs) (ys := ys) (k := k) (by have := HN.out; omega) (by have := HN'.out; omega))
            obtain ⟨x0, x1⟩ := loads_each HL.out (k := k) (by have := HN.out; omega)
            obtain ⟨y0, y1⟩ := HY.out k (by have := HN'.out; omega)
            generalize xs.getD k 0 = x at *
            generalize ys.getD k 0 = y at *
            have hi0 : (0 : Int) ≤ (k : Int) := Int.natCast_nonneg _
            have hi1 : (k : Int) < (n : Int) := by omega
            go_wp2_with fail
            have wr1 : IntKind.i64.wrap (x + y) = x + y := IntWalk.i64_in _ (by omega)
            go_quiet (fail)
            clear wr1
            go_wp2_with fail
            go_roundw
            case rel => exact ⟨k + 1, max p (x + y), by omega, by go_num, congrArg _ (max_of p (x + y)), by omega, by omega, by rw [Hid, hp.out, HS.out], drewNB hbw _⟩
            case measure => simp [intOf]; omega
          · go_wp2_with fail
            go_ret
            exact isInt_of (by rw [HO.out, hp.out, List.drop_eq_nil_of_le (by have := HN.out; omega), peakL]; intros; simp_all) hbw
      · have hne : ((n : Int) != (m : Int)) = true := by simp; omega
        have HO := Lib.hid (peakV_no (s := s) (r := r) (l := l) (xs := xs) (ys := ys) (by rw [decide_eq_false (by have := HN.out; have := HN'.out; omega)]; simp))
        go_enter Tryd.func18, Tryd.ntmps18
        go_wp2_with (first | (go_at_call 14; refine (specSR _ _ _ _ _ _ ys _ HN'.out hm' (HB.out.below HX.out)).mono ?_; rintro e w1 ⟨rfl, hb1⟩; replace HX := Lib.hid (seqB HX.out hb1); replace hbx := seqB hbx hb1; clear hb1) | (go_at_call 37; refine (specLd _ _ _ xs _ HN.out hm (HA.out.below HX.out)).mono ?_; rintro e w' ⟨rfl, rfl⟩))
        go_ret
        exact isInt_of HO.out.symm hbx
set_option maxHeartbeats 2000000 in
theorem implPO (A B : Option Addr) (n c m d : Nat) (s r l : Int) (xs ys : List Int) (w : World) (hn : xs.length = n) (hn' : ys.length = m) (hm : n ≤ 1048576) (hm' : m ≤ 1048576) (hA : Rd w A (ints xs)) (hB : Rd w B (ints ys)) :
    Calls Tryd.prog 17 #[.agg #[.int .i64 s, .int .i64 r, .int .i64 l], .slice A n c, .slice B m d] w (IsInt (peakV s r l xs ys) w) := by
  have HA := Lib.hid hA; clear hA
  have HN := Lib.hid hn; clear hn
  have HB := Lib.hid hB; clear hB
  have HN' := Lib.hid hn'; clear hn'
  have hbx : Below w.heap.size w (w.alloc (.cells #[.int .i64 s, .int .i64 r, .int .i64 l] 24)) := allocB (Below.refl _ _) _
  have HX := Lib.hid hbx
  cases ho : (stAll s r l ys).isSome with
  | false =>
    have HO := Lib.hid (peakV_no (s := s) (r := r) (l := l) (xs := xs) (ys := ys) (by rw [ho]; rfl))
    go_enter Tryd.func17, Tryd.ntmps17
    go_wp2_with (go_at_call 13; refine (implSR _ _ _ _ _ _ ys _ HN'.out hm' (HB.out.below HX.out)).mono ?_; rintro e w1 ⟨rfl, hb1⟩)
    go_ret
    exact isInt_of HO.out.symm (seqB hbx hb1)
  | true =>
    by_cases hlen : n = m
    · subst hlen
      have hne : ((n : Int) != (n : Int)) = false := by simp
      cases hl : loadsB xs with
      | false =>
        have HO := Lib.hid (peakV_no (s := s) (r := r) (l := l) (xs := xs) (ys := ys) (by rw [hl]; simp))
        go_enter Tryd.func17, Tryd.ntmps17
        go_wp2_with (first | (go_at_call 13; refine (implSR _ _ _ _ _ _ ys _ HN'.out hm' (HB.out.below HX.out)).mono ?_; rintro e w1 ⟨rfl, hb1⟩; replace HX := Lib.hid (seqB HX.out hb1); replace hbx := seqB hbx hb1; clear hb1) | (go_at_call 36; refine (implLd _ _ _ xs _ HN.out hm (HA.out.below HX.out)).mono ?_; rintro e w' ⟨rfl, rfl⟩))
        go_ret
        exact isInt_of HO.out.symm hbx
      | true =>
        obtain ⟨_, h12, hy⟩ := stAll_each ho
        have HO := Lib.hid (peakV_ok ho hl (by have := HN.out; have := HN'.out; omega))
        have HY := Lib.hid hy; clear hy
        have HL := Lib.hid hl
        replace h12 : n ≤ 12 := by have := HN'.out; omega
        go_enter Tryd.func17, Tryd.ntmps17
        go_wp2_with (first | (go_at_call 13; refine (implSR _ _ _ _ _ _ ys _ HN'.out hm' (HB.out.below HX.out)).mono ?_; rintro e w1 ⟨rfl, hb1⟩; replace HX := Lib.hid (seqB HX.out hb1); replace hbx := seqB hbx hb1; clear hb1) | (go_at_call 36; refine (implLd _ _ _ xs _ HN.out hm (HA.out.below HX.out)).mono ?_; rintro e w' ⟨rfl, rfl⟩))
        go_loop [9, 10, 11, 34] (fun q _ _ i => ∃ (k : Nat) (p : Int), k ≤ n ∧ i = .int .i64 k ∧ q = .int .i64 p ∧ 0 ≤ p ∧ p ≤ 2000 ∧ Hid (peakL 0 xs ys = peakL p (xs.drop k) (ys.drop k))) (fun _ _ _ i => n - (intOf i).toNat)
        case atStart => exact ⟨0, 0, by omega, rfl, rfl, by omega, by omega, rfl⟩
        case round =>
          obtain ⟨k, p, hk, rfl, rfl, p0, p1, hp⟩ := hrel
          by_cases hlt : k < n
          · obtain ⟨b, o, rfl, _, hck⟩ := (HA.out.below hbx).int (k := k) (by have := HN.out; omega)
            obtain ⟨b2, o2, rfl, _, hck2⟩ := (HB.out.below hbx).int (k := k) (by have := HN'.out; omega)
            have HS := Lib.hid (peakL_drop (p := p) (xs := xs) (ys := ys) (k := k) (by have := HN.out; omega) (by have := HN'.out; omega))
            obtain ⟨x0, x1⟩ := loads_each HL.out (k := k) (by have := HN.out; omega)
            obtain ⟨y0, y1⟩ := HY.out k (by have := HN'.out; omega)
            generalize xs.getD k 0 = x at *
            generalize ys.getD k 0 = y at *
            go_wp2_with fail
            go_round
            case rel => exact ⟨k + 1, max p (x + y), by omega, by go_num, congrArg _ (max_of p (x + y)), by omega, by omega, by rw [Hid, hp.out, HS.out]⟩
            case measure => simp [intOf]; omega
          · go_wp2_with fail
            go_ret
            exact isInt_of (by rw [HO.out, hp.out, List.drop_eq_nil_of_le (by have := HN.out; omega), peakL]; intros; simp_all) hbx
    · have hne : ((n : Int) != (m : Int)) = true := by simp; omega
      have HO := Lib.hid (peakV_no (s := s) (r := r) (l := l) (xs := xs) (ys := ys) (by rw [decide_eq_false (by have := HN.out; have := HN'.out; omega)]; simp))
      go_enter Tryd.func17, Tryd.ntmps17
      go_wp2_with (first | (go_at_call 13; refine (implSR _ _ _ _ _ _ ys _ HN'.out hm' (HB.out.below HX.out)).mono ?_; rintro e w1 ⟨rfl, hb1⟩; replace HX := Lib.hid (seqB HX.out hb1); replace hbx := seqB hbx hb1; clear hb1))
      go_ret
      exact isInt_of HO.out.symm hbx
end Go.Proofs.YtjlbhpogmjjbiaaDoor
