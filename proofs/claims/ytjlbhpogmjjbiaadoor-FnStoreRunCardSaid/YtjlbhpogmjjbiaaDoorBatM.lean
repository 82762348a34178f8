/- Contracts of LeastPeak, of the reference and of the program. No statement is proved here. -/
import Derived.Test.YtjlbhpogmjjbiaaDoorBatI
namespace Go.Proofs.YtjlbhpogmjjbiaaDoor
open Go.RowKit

theorem leastV_bad {s r l : Int} {xs : List Int} (h : (batB s r l && loadsB xs) = false) : leastV s r l xs = -1 := by rw [leastV, h]; rfl
theorem leastV_ok {s r l : Int} {xs : List Int} (h : batB s r l = true) (h2 : loadsB xs = true) : leastV s r l xs = (leastN s r l xs : Int) := by rw [leastV, h, h2]; rfl
theorem planN {s r l : Int} {xs : List Int} (h : batB s r l = true) (h2 : loadsB xs = true) (p : Nat) : planV s r l (p : Int) xs = planL s r (p : Int) l xs := planV_ok h h2 (by omega)
theorem cells3 {w : World} {g : Nat} {a b c : Value} {T : TypeId} (h : w.heap[g]? = some (.cells #[a, b, c] T (0, 0))) : w.cell? ⟨g, 0, none⟩ = some a ∧ w.cell? ⟨g, 1, none⟩ = some b ∧ w.cell? ⟨g, 2, none⟩ = some c :=
  ⟨cell_of_row _ _ 0 _ _ (0, 0) h, cell_of_row _ _ 1 _ _ (0, 0) h, cell_of_row _ _ 2 _ _ (0, 0) h⟩

set_option maxHeartbeats 2000000 in
theorem specLP (A : Option Addr) (n c : Nat) (s r l : Int) (xs : List Int) (w : World) (hn : xs.length = n) (hm : n ≤ 1048576) (hA : Rd w A (ints xs)) :
    Calls Tryd.prog 25 #[.agg #[.int .i64 s, .int .i64 r, .int .i64 l], .slice A n c] w (IsInt (leastV s r l xs) w) := by
  have HA := Lib.hid hA; clear hA
  have HN := Lib.hid hn; clear hn
  have HX : Hid (Below w.heap.size w (w.alloc (.cells #[.int .i64 s, .int .i64 r, .int .i64 l] 24))) := allocB (Below.refl _ _) _
  cases hv : batB s r l with
  | false =>
    have HO := Lib.hid (leastV_bad (s := s) (r := r) (l := l) (xs := xs) (by rw [hv]; rfl))
    go_enter Tryd.func25, Tryd.ntmps25
    go_wp2_with (go_at_call 10; refine (specBV _ _ _ _).mono ?_; rintro e w1 ⟨rfl, hb1⟩)
    go_ret
    exact isInt_of HO.out.symm (seqB HX.out hb1)
  | true =>
    cases hl : loadsB xs with
    | false =>
      have HO := Lib.hid (leastV_bad (s := s) (r := r) (l := l) (xs := xs) (by rw [hl]; simp))
      go_enter Tryd.func25, Tryd.ntmps25
      go_wp2_with (first | (go_at_call 10; refine (specBV _ _ _ _).mono ?_; rintro e w1 ⟨rfl, hb1⟩; replace HX := Lib.hid (seqB HX.out hb1); clear hb1) | (go_at_call 37; refine (specLd _ _ _ xs _ HN.out hm (HA.out.below HX.out)).mono ?_; rintro e w' ⟨rfl, rfl⟩))
      go_ret
      exact isInt_of HO.out.symm HX.out
    | true =>
      have HO := Lib.hid (leastV_ok hv hl)
      obtain ⟨hN, hN1, hN0⟩ := leastN_spec hv hl
      have HP := Lib.hid (planN hv hl)
      generalize leastN s r l xs = N at *
      have H1 := Lib.hid hN1; clear hN1
      have H0 := Lib.hid hN0; clear hN0
      have hbox : Hid ((w.alloc (.cells #[.int .i64 s, .int .i64 r, .int .i64 l] 24)).heap[w.heap.size]? = some (.cells #[.int .i64 s, .int .i64 r, .int .i64 l] 24 (0, 0))) := heap_alloc_new w _
      have HZ : Hid (w.heap.size < (w.alloc (.cells #[.int .i64 s, .int .i64 r, .int .i64 l] 24)).heap.size) := by simp [Hid]
      go_enter Tryd.func25, Tryd.ntmps25
      go_wp2_with (first | (go_at_call 10; refine (specBV _ _ _ _).mono ?_; rintro e w1 ⟨rfl, hb1⟩; replace hbox := Lib.hid ((hb1.block _ HZ.out).trans hbox.out); replace HZ := Lib.hid (Nat.lt_of_lt_of_le HZ.out hb1.size); replace HX := Lib.hid (seqB HX.out hb1); clear hb1; obtain ⟨g0, g1, g2⟩ := cells3 hbox.out) | (go_at_call 37; refine (specLd _ _ _ xs _ HN.out hm (HA.out.below HX.out)).mono ?_; rintro e w' ⟨rfl, rfl⟩) | (go_at_call 21; refine (specPP _ _ _ s r l 0 xs _ HN.out hm (by omega) (HA.out.below HX.out)).mono ?_; rintro e w2 ⟨B, c2, rfl, _, hb2⟩; replace hbox := Lib.hid ((hb2.block _ HZ.out).trans hbox.out); replace HZ := Lib.hid (Nat.lt_of_lt_of_le HZ.out hb2.size); replace HX := Lib.hid (seqB HX.out hb2); clear hb2 g0 g1 g2))
      go_loopw [5, 7] (fun q f wr => ∃ p : Nat, p ≤ N ∧ q = .int .i64 p ∧ f = .bool (planV s r l (p : Int) xs).isSome ∧ Hid (wr.heap[w.heap.size]? = some (.cells #[.int .i64 s, .int .i64 r, .int .i64 l] 24 (0, 0))) ∧ Hid (w.heap.size < wr.heap.size) ∧ Hid (Below w.heap.size w wr)) (fun q _ _ => N - (intOf q).toNat)
      case atStart => exact ⟨0, by omega, rfl, rfl, hbox, HZ, HX⟩
      case round =>
        clear hbox HZ HX
        obtain ⟨p, hp, rfl, rfl, hbox, HZ, HX⟩ := hrel
        obtain ⟨g0, g1, g2⟩ := cells3 hbox.out
        by_cases hlt : p < N
        · have hs : (planV s r l (p : Int) xs).isSome = false := by rw [HP.out]; exact H0.out p hlt
          go_wp2_with ((go_at_call 21; refine (specPP _ _ _ s r l ((p : Int) + 1) xs _ HN.out hm (by omega) (HA.out.below HX.out)).mono ?_; rintro e w2 ⟨B, c2, rfl, _, hb2⟩; replace hbox := Lib.hid ((hb2.block _ HZ.out).trans hbox.out); replace HZ := Lib.hid (Nat.lt_of_lt_of_le HZ.out hb2.size); replace HX := Lib.hid (seqB HX.out hb2); clear hb2 g0 g1 g2))
          go_roundw
          case rel => exact ⟨p + 1, by omega, by go_num, by rw [Int.natCast_add]; rfl, hbox, HZ, HX⟩
          case measure => simp [intOf]; omega
        · have hs : (planV s r l (p : Int) xs).isSome = true := by rw [HP.out, show p = N by omega]; exact H1.out
          go_wp2_with fail
          go_ret
          exact isInt_of (by rw [HO.out, show p = N by omega]) HX.out
set_option maxHeartbeats 2000000 in
theorem implLP (A : Option Addr) (n c : Nat) (s r l : Int) (xs : List Int) (w : World) (hn : xs.length = n) (hm : n ≤ 1048576) (hA : Rd w A (ints xs)) :
    Calls Tryd.prog 24 #[.agg #[.int .i64 s, .int .i64 r, .int .i64 l], .slice A n c] w (IsInt (leastV s r l xs) w) := by
  have HA := Lib.hid hA; clear hA
  have HN := Lib.hid hn; clear hn
  have HX : Hid (Below w.heap.size w (w.alloc (.cells #[.int .i64 s, .int .i64 r, .int .i64 l] 24))) := allocB (Below.refl _ _) _
  cases hv : batB s r l with
  | false =>
    have HO := Lib.hid (leastV_bad (s := s) (r := r) (l := l) (xs := xs) (by rw [hv]; rfl))
    go_enter Tryd.func24, Tryd.ntmps24
    go_wp2_with (go_at_call 9; refine (implBV _ _ _ _).mono ?_; rintro e w1 ⟨rfl, hb1⟩)
    go_ret
    exact isInt_of HO.out.symm (seqB HX.out hb1)
  | true =>
    cases hl : loadsB xs with
    | false =>
      have HO := Lib.hid (leastV_bad (s := s) (r := r) (l := l) (xs := xs) (by rw [hl]; simp))
      go_enter Tryd.func24, Tryd.ntmps24
      go_wp2_with (first | (go_at_call 9; refine (implBV _ _ _ _).mono ?_; rintro e w1 ⟨rfl, hb1⟩; replace HX := Lib.hid (seqB HX.out hb1); clear hb1) | (go_at_call 36; refine (implLd _ _ _ xs _ HN.out hm (HA.out.below HX.out)).mono ?_; rintro e w' ⟨rfl, rfl⟩))
      go_ret
      exact isInt_of HO.out.symm HX.out
    | true =>
      have HO := Lib.hid (leastV_ok hv hl)
      obtain ⟨hN, hN1, hN0⟩ := leastN_spec hv hl
      have HP := Lib.hid (planN hv hl)
      generalize leastN s r l xs = N at *
      have H1 := Lib.hid hN1; clear hN1
      have H0 := Lib.hid hN0; clear hN0
      have hbox : Hid ((w.alloc (.cells #[.int .i64 s, .int .i64 r, .int .i64 l] 24)).heap[w.heap.size]? = some (.cells #[.int .i64 s, .int .i64 r, .int .i64 l] 24 (0, 0))) := heap_alloc_new w _
      have HZ : Hid (w.heap.size < (w.alloc (.cells #[.int .i64 s, .int .i64 r, .int .i64 l] 24)).heap.size) := by simp [Hid]
      go_enter Tryd.func24, Tryd.ntmps24
      go_wp2_with (first | (go_at_call 9; refine (implBV _ _ _ _).mono ?_; rintro e w1 ⟨rfl, hb1⟩; replace hbox := Lib.hid ((hb1.block _ HZ.out).trans hbox.out); replace HZ := Lib.hid (Nat.lt_of_lt_of_le HZ.out hb1.size); replace HX := Lib.hid (seqB HX.out hb1); clear hb1) | (go_at_call 36; refine (implLd _ _ _ xs _ HN.out hm (HA.out.below HX.out)).mono ?_; rintro e w' ⟨rfl, rfl⟩))
      go_loopw [5] (fun q wr => ∃ p : Nat, p ≤ N ∧ q = .int .i64 p ∧ Hid (wr.heap[w.heap.size]? = some (.cells #[.int .i64 s, .int .i64 r, .int .i64 l] 24 (0, 0))) ∧ Hid (w.heap.size < wr.heap.size) ∧ Hid (Below w.heap.size w wr)) (fun q _ => N - (intOf q).toNat)
      case atStart => exact ⟨0, by omega, rfl, hbox, HZ, HX⟩
      case round =>
        clear hbox HZ HX
        obtain ⟨p, hp, rfl, hbox, HZ, HX⟩ := hrel
        obtain ⟨g0, g1, g2⟩ := cells3 hbox.out
        by_cases hlt : p < N
        · have hs : (planV s r l (p : Int) xs).isSome = false := by rw [HP.out]; exact H0.out p hlt
          go_wp2_with ((go_at_call 20; refine (implPP _ _ _ s r l (p : Int) xs _ HN.out hm (by omega) (HA.out.below HX.out)).mono ?_; rintro e w2 ⟨B, c2, rfl, _, hb2⟩; replace hbox := Lib.hid ((hb2.block _ HZ.out).trans hbox.out); replace HZ := Lib.hid (Nat.lt_of_lt_of_le HZ.out hb2.size); replace HX := Lib.hid (seqB HX.out hb2); clear hb2 g0 g1 g2))
          go_roundw
          case rel => exact ⟨p + 1, by omega, by go_num, hbox, HZ, HX⟩
          case measure => simp [intOf]; omega
        · have hs : (planV s r l (p : Int) xs).isSome = true := by rw [HP.out, show p = N by omega]; exact H1.out
          go_wp2_with ((go_at_call 20; refine (implPP _ _ _ s r l (p : Int) xs _ HN.out hm (by omega) (HA.out.below HX.out)).mono ?_; rintro e w2 ⟨B, c2, rfl, _, hb2⟩; replace HX := Lib.hid (seqB HX.out hb2); clear hb2 g0 g1 g2))
          go_ret
          exact isInt_of (by rw [HO.out, show p = N by omega]) HX.out
end Go.Proofs.YtjlbhpogmjjbiaaDoor
