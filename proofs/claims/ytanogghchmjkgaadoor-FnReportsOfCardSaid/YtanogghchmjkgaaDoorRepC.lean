/- The contract of ReportsOf of the program, with the room of what it returns. No statement is proved here. -/
import Derived.Test.YtanogghchmjkgaaDoorRepO
import Derived.Test.YtanogghchmjkgaaDoorDrL
namespace Go.Proofs.YtanogghchmjkgaaDoor
open Go.RowKit
/-- as RetS, and the slice's length is within its room -/
def RetC (E : TypeId) (size : Nat) (cs : List Value) (n : Nat) (w : World) (e : Ending) (w' : World) : Prop :=
  ∃ B c, e = .returned (.slice B n c) ∧ Own w' w.heap.size E size B n cs ∧ n ≤ c ∧ Below w.heap.size w w'
set_option maxHeartbeats 1000000 in
theorem implROc_ok (A : Option Addr) (n c : Nat) (xs : List Int) (band : Int) (w : World) (hn : xs.length = n) (hA : Rd w A (ints xs)) (hv : smpB xs = true) (hb : inB band 0 999 = true) :
    Calls Tryd.prog 13 #[.slice A n c, .int .i64 band] w (RetC 31 2 (flatReport (repsTo xs band n)) (repsTo xs band n).length w) := by
  have hn20 := smp_len hv
  have HA := Lib.hid hA; clear hA
  have HN := Lib.hid hn
  have hm : n ≤ 20 := by omega
  clear hn hn20
  have HV := Lib.hid hv
  obtain ⟨i0, hi0, hz0, hz1, hz2⟩ := info_parts info_Report
  have HI := Lib.hid (And.intro hi0 (And.intro hz0 (And.intro hz1 hz2))); clear hi0 hz0 hz1 hz2
  go_enter Tryd.func13, Tryd.ntmps13
  go_wp2_with (first | (go_at_call 20; refine (implSV _ _ _ xs _ HN.out (by omega) HA.out).mono ?_; rintro e w' ⟨rfl, rfl⟩) | (go_at_call 32; refine (pv_any _ _).mono ?_; rintro e w' ⟨rfl, rfl⟩))
  have hown0 : w.ownsRow w.heap.size 31 2 (.slice none 0 0) 0 [] := ⟨by simp, .inl ⟨rfl, rfl⟩⟩
  have hb0 : Below w.heap.size w w := Below.refl _ _
  go_loopw [5, 18] (fun v i wr => ∃ k : Nat, k ≤ n ∧ i = .int .i64 k ∧ (∃ B c', v = .slice B (repsTo xs band k).length c' ∧ wr.ownsRow w.heap.size 31 2 (.slice B (repsTo xs band k).length c') (repsTo xs band k).length (flatReport (repsTo xs band k))) ∧ Below w.heap.size w wr) (fun _ i _ => n - (intOf i).toNat)
  case atStart => exact ⟨0, by omega, rfl, ⟨_, _, rfl, hown0⟩, hb0⟩
  case round =>
    clear hown0 hb0
    obtain ⟨k, hk, rfl, ⟨B, c', rfl, hown⟩, hbw⟩ := hrel
    by_cases hlt : k < n
    · have hA' : Rd wr A (ints xs) := HA.out.below hbw
      obtain ⟨b, o, rfl, hbl, hck⟩ := hA'.int (k := k) (by have := HN.out; omega)
      obtain ⟨hx0, hx1⟩ := smp_val HV.out (k := k) (by have := HN.out; omega)
      have hlen := repsTo_length xs band k
      clear hA'
      by_cases hk0 : k ≤ 0
      · have hz : ((k : Int) == 0) = true := by simp; omega
        have HS := Lib.hid (repsTo_add xs band k (.inl (by omega)))
        generalize xs.getD k 0 = x at *
        generalize repsTo xs band k = acc at *
        go_wp2_with (at_builtin; refine wpList_app1 wr rfl _ _ _ rfl w.heap.size 31 i0 _ 2 16 Tryd.underlying23 HI.out rfl (by omega) (.slice B acc.length c') acc.length (flatReport acc) rfl hown #[.int .i64 k, .int .i64 x] rfl rfl (by simp [Value.oneCell']) (by omega) (by omega) hbw.size ?_; intro v' w3 hown3 hg3)
        have hbw3 := row_alloc_grown hbw rfl hown hg3
        clear hbw hown hg3
        go_roundw
        case rel => exact ⟨k + 1, by omega, by go_num, snocReport (r := ⟨k, x⟩) hown3 HS.out, hbw3⟩
        case measure => simp [intOf]; omega
      · have hz : ((k : Int) == 0) = false := by simp; omega
        obtain ⟨hy0, hy1⟩ := repsTo_last band HV.out k (by have := HN.out; omega) (by omega)
        have hpos := repsTo_pos xs band k (by omega)
        have HS1 := Lib.hid (fun h => repsTo_add xs band k (.inr h))
        have HS2 := Lib.hid (fun h => repsTo_same xs band k h)
        obtain ⟨g, og, rfl, hgl, _, hlast⟩ := (rd_of_row hown).atReport (k := (repsTo xs band k).length - 1) (by omega)
        generalize xs.getD k 0 = x at *
        generalize repsTo xs band k = acc at *
        generalize acc.getD (acc.length - 1) Report.zero = r at *
        by_cases hf : band < far x r.fValue
        · have hfd : decide (band < far x r.fValue) = true := by simpa using hf
          have HS := Lib.hid (HS1.out hf)
          clear HS1 HS2
          go_wp2_with (first | (go_at_call 33; refine (implFar _ _ _ (by omega) (by omega) (by omega) (by omega)).mono ?_; rintro e w' ⟨rfl, rfl⟩) | (at_builtin; refine wpList_app1 wr rfl _ _ _ rfl w.heap.size 31 i0 _ 2 16 Tryd.underlying23 HI.out rfl (by omega) (.slice (some ⟨g, og, none⟩) acc.length c') acc.length (flatReport acc) rfl hown #[.int .i64 k, .int .i64 x] rfl rfl (by simp [Value.oneCell']) (by omega) (by omega) hbw.size ?_; intro v' w3 hown3 hg3))
          have hbw3 := row_alloc_grown hbw rfl hown hg3
          clear hbw hown hg3
          go_roundw
          case rel => exact ⟨k + 1, by omega, by go_num, snocReport (r := ⟨k, x⟩) hown3 HS.out, hbw3⟩
          case measure => simp [intOf]; omega
        · have hfd : decide (band < far x r.fValue) = false := by simpa using hf
          have HS := Lib.hid (HS2.out (by rintro (h | h) <;> omega))
          clear HS1 HS2
          go_wp2_with (go_at_call 33; refine (implFar _ _ _ (by omega) (by omega) (by omega) (by omega)).mono ?_; rintro e w' ⟨rfl, rfl⟩)
          go_roundw
          case rel => exact ⟨k + 1, by omega, by go_num, by rw [HS.out]; exact ⟨_, _, rfl, hown⟩, hbw⟩
          case measure => simp [intOf]; omega
    · go_wp2_with fail
      go_ret
      have hkn : k = n := by omega
      subst hkn
      have hfm := row_fm hown
      obtain ⟨B', c2, e, ho⟩ := own_of_row hown
      cases e
      exact ⟨_, _, rfl, ho, hfm.1, hbw⟩

set_option maxHeartbeats 1000000 in
theorem implROc (A : Option Addr) (n c : Nat) (xs : List Int) (band : Int) (w : World) (hn : xs.length = n) (hm : n ≤ 1048576) (hA : Rd w A (ints xs)) :
    Calls Tryd.prog 13 #[.slice A n c, .int .i64 band] w (RetC 31 2 (flatReport (reps xs band)) (reps xs band).length w) := by
  cases hv : smpB xs with
  | true =>
    cases hb : inB band 0 999 with
    | true =>
      rw [reps, hv, hb]
      have := implROc_ok A n c xs band w hn hA hv hb
      rw [← hn] at this ⊢
      exact this
    | false =>
      rw [reps, hv, hb]
      have HA := Lib.hid hA; clear hA
      have HN := Lib.hid hn; clear hn
      go_enter Tryd.func13, Tryd.ntmps13
      go_wp2_with (first | (go_at_call 20; refine (implSV _ _ _ xs _ HN.out hm HA.out).mono ?_; rintro e w' ⟨rfl, rfl⟩) | (go_at_call 32; refine (pv_any _ _).mono ?_; rintro e w' ⟨rfl, rfl⟩))
      go_ret
      exact ⟨_, _, rfl, Own.nil, Nat.le_refl _, Below.refl _ _⟩
  | false =>
    rw [reps, hv]
    have HA := Lib.hid hA; clear hA
    have HN := Lib.hid hn; clear hn
    go_enter Tryd.func13, Tryd.ntmps13
    go_wp2_with (first | (go_at_call 20; refine (implSV _ _ _ xs _ HN.out hm HA.out).mono ?_; rintro e w' ⟨rfl, rfl⟩) | (go_at_call 32; refine (pv_any _ _).mono ?_; rintro e w' ⟨rfl, rfl⟩))
    go_ret
    exact ⟨_, _, rfl, Own.nil, Nat.le_refl _, Below.refl _ _⟩
end Go.Proofs.YtanogghchmjkgaaDoor
