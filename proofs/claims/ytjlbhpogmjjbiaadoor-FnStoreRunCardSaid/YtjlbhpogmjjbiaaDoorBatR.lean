/- Contracts of StoreRun, of the reference and of the program. No statement is proved here. -/
import Derived.Test.YtjlbhpogmjjbiaaDoorBat
import Derived.IntWalk
namespace Go.Proofs.YtjlbhpogmjjbiaaDoor
open Go.RowKit

theorem stAll_bad {s r l : Int} {xs : List Int} (h : batB s r l = false) : stAll s r l xs = none := by rw [stAll, h]; rfl
theorem stAll_long {s r l : Int} {xs : List Int} (h : 12 < xs.length) : stAll s r l xs = none := by
  rw [stAll, if_neg]; simp; intro _; omega
theorem stAll_ok {s r l : Int} {xs : List Int} (h : batB s r l = true) (hl : xs.length ≤ 12) : stAll s r l xs = stRun s r l xs := by
  rw [stAll, if_pos]; simp [h, hl]
theorem bat_of {s r l : Int} (h : batB s r l = true) : (0 ≤ s ∧ s ≤ 999) ∧ (0 ≤ r ∧ r ≤ 999) ∧ 0 ≤ l ∧ l ≤ s := by
  simp only [batB, Bool.and_eq_true, inB_iff] at h
  exact ⟨h.1, h.2.1, h.2.2⟩
/-- what StoreRun returns -/
def IsRun (o : Option Int) (w : World) (e : Ending) (w' : World) : Prop := e = .returned (.tuple #[.int .i64 (stLev o), .bool o.isSome]) ∧ Below w.heap.size w w'
theorem isRun_none {o : Option Int} {w w' : World} (h : o = none) (hb : Below w.heap.size w w') : IsRun o w (.returned (.tuple #[.int .i64 (-1), .bool false])) w' := by subst h; exact ⟨rfl, hb⟩
theorem isRun_some {o : Option Int} {v : Int} {w w' : World} (h : o = some v) (hb : Below w.heap.size w w') : IsRun o w (.returned (.tuple #[.int .i64 v, .bool true])) w' := by subst h; exact ⟨rfl, hb⟩

set_option maxHeartbeats 2000000 in
theorem specSR (A : Option Addr) (n c : Nat) (s r l : Int) (xs : List Int) (w : World) (hn : xs.length = n) (hm : n ≤ 1048576) (hA : Rd w A (ints xs)) :
    Calls Tryd.prog 14 #[.agg #[.int .i64 s, .int .i64 r, .int .i64 l], .slice A n c] w (IsRun (stAll s r l xs) w) := by
  have HA := Lib.hid hA; clear hA
  have HN := Lib.hid hn; clear hn
  have hbx : Below w.heap.size w (w.alloc (.cells #[.int .i64 s, .int .i64 r, .int .i64 l] 24)) := allocB (Below.refl _ _) _
  cases hv : batB s r l with
  | false =>
    have HO := Lib.hid (stAll_bad (xs := xs) hv)
    go_enter Tryd.func14, Tryd.ntmps14
    go_wp2_with (go_at_call 10; refine (specBV _ _ _ _).mono ?_; rintro e w1 ⟨rfl, hb1⟩)
    go_ret2
    exact isRun_none HO.out (seqB hbx hb1)
  | true =>
    by_cases h12 : n ≤ 12
    · have HO := Lib.hid (stAll_ok (xs := xs) hv (by have := HN.out; omega))
      obtain ⟨⟨a1, a2⟩, ⟨a3, a4⟩, a5, a6⟩ := bat_of hv
      have g0 : (w.alloc (.cells #[.int .i64 s, .int .i64 r, .int .i64 l] 24)).cell? ⟨w.heap.size, 0, none⟩ = some (.int .i64 s) := cell_of_row _ _ 0 _ _ (0, 0) (heap_alloc_new w _)
      have g1 : (w.alloc (.cells #[.int .i64 s, .int .i64 r, .int .i64 l] 24)).cell? ⟨w.heap.size, 1, none⟩ = some (.int .i64 r) := cell_of_row _ _ 1 _ _ (0, 0) (heap_alloc_new w _)
      have g2 : (w.alloc (.cells #[.int .i64 s, .int .i64 r, .int .i64 l] 24)).cell? ⟨w.heap.size, 2, none⟩ = some (.int .i64 l) := cell_of_row _ _ 2 _ _ (0, 0) (heap_alloc_new w _)
      go_enter Tryd.func14, Tryd.ntmps14
      go_wp2_with (go_at_call 10; refine (specBV _ _ _ _).mono ?_; rintro e w1 ⟨rfl, hb1⟩; replace g0 := cell_keep g0 hb1; replace g1 := cell_keep g1 hb1; replace g2 := cell_keep g2 hb1; replace hbx := seqB hbx hb1; clear hb1)
      go_loopw [6, 7] (fun lv i wr => ∃ (k : Nat) (v : Int), k ≤ n ∧ i = .int .i64 k ∧ lv = .int .i64 v ∧ 0 ≤ v ∧ v ≤ s ∧ Hid (stRun s r l xs = stRun s r v (xs.drop k)) ∧ Below w1.heap.size w1 wr) (fun _ i _ => n - (intOf i).toNat)
      case atStart => exact ⟨0, l, by omega, rfl, rfl, a5, a6, rfl, Below.refl _ _⟩
      case round =>
        obtain ⟨k, v, hk, rfl, rfl, v0, v1, hp, hbw⟩ := hrel
        have f0 := cell_keep g0 hbw
        have f1 := cell_keep g1 hbw
        have hbb := seqB hbx hbw
        clear g0 g1 g2
        by_cases hlt : k < n
        · obtain ⟨b, o, rfl, _, hck⟩ := (HA.out.below hbb).int (k := k) (by have := HN.out; omega)
          have HS := Lib.hid (stRun_drop (s := s) (r := r) (l := v) (xs := xs) (k := k) (by have := HN.out; omega))
          generalize xs.getD k 0 = x at *
          have hi0 : (0 : Int) ≤ (k : Int) := Int.natCast_nonneg _
          have hi1 : (k : Int) < (n : Int) := by omega
          cases h1 : inB x (-r) r with
          | false =>
            go_wp2_with fail
            have wr1 : IntKind.i64.wrap (-r) = -r := IntWalk.i64_in _ (by omega)
            go_quiet ((go_at_call 29; exact quiet_left (l1In_any _ _ _ _)))
            clear wr1
            go_wp2_with fail
            go_ret2
            exact isRun_none (by rw [HO.out, hp.out, HS.out, stOk, h1]; rfl) (drewNB hbb _)
          | true =>
            obtain ⟨x0, x1⟩ := (inB_iff _ _ _).1 h1
            cases h2 : inB (v + x) 0 s with
            | false =>
              go_wp2_with fail
              have wr1 : IntKind.i64.wrap (-r) = -r := IntWalk.i64_in _ (by omega)
              have wr2 : IntKind.i64.wrap (v + x) = v + x := IntWalk.i64_in _ (by omega)
              go_quiet ((go_at_call 29; exact quiet_left (l1In_any _ _ _ _)))
              clear wr1 wr2
              go_wp2_with fail
              go_ret2
              exact isRun_none (by rw [HO.out, hp.out, HS.out, stOk, h1, h2]; rfl) (drewNB hbb _)
            | true =>
              obtain ⟨y0, y1⟩ := (inB_iff _ _ _).1 h2
              go_wp2_with fail
              have wr1 : IntKind.i64.wrap (-r) = -r := IntWalk.i64_in _ (by omega)
              have wr2 : IntKind.i64.wrap (v + x) = v + x := IntWalk.i64_in _ (by omega)
              go_quiet ((go_at_call 29; exact quiet_left (l1In_any _ _ _ _)))
              clear wr1 wr2
              go_wp2_with fail
              go_roundw
              case rel => exact ⟨k + 1, v + x, by omega, by go_num, rfl, y0, y1, by rw [Hid, hp.out, HS.out, stOk, h1, h2]; rfl, drewNB hbw _⟩
              case measure => simp [intOf]; omega
        · go_wp2_with fail
          go_ret2
          exact isRun_some (by rw [HO.out, hp.out, List.drop_eq_nil_of_le (by have := HN.out; omega), stRun]) hbb
    · have HO := Lib.hid (stAll_long (s := s) (r := r) (l := l) (xs := xs) (by have := HN.out; omega))
      go_enter Tryd.func14, Tryd.ntmps14
      go_wp2_with (go_at_call 10; refine (specBV _ _ _ _).mono ?_; rintro e w1 ⟨rfl, hb1⟩)
      go_ret2
      exact isRun_none HO.out (seqB hbx hb1)

set_option maxHeartbeats 2000000 in
theorem implSR (A : Option Addr) (n c : Nat) (s r l : Int) (xs : List Int) (w : World) (hn : xs.length = n) (hm : n ≤ 1048576) (hA : Rd w A (ints xs)) :
    Calls Tryd.prog 13 #[.agg #[.int .i64 s, .int .i64 r, .int .i64 l], .slice A n c] w (IsRun (stAll s r l xs) w) := by
  have HA := Lib.hid hA; clear hA
  have HN := Lib.hid hn; clear hn
  have hbx : Below w.heap.size w (w.alloc (.cells #[.int .i64 s, .int .i64 r, .int .i64 l] 24)) := allocB (Below.refl _ _) _
  cases hv : batB s r l with
  | false =>
    have HO := Lib.hid (stAll_bad (xs := xs) hv)
    go_enter Tryd.func13, Tryd.ntmps13
    go_wp2_with (go_at_call 9; refine (implBV _ _ _ _).mono ?_; rintro e w1 ⟨rfl, hb1⟩)
    go_ret2
    exact isRun_none HO.out (seqB hbx hb1)
  | true =>
    by_cases h12 : n ≤ 12
    · have HO := Lib.hid (stAll_ok (xs := xs) hv (by have := HN.out; omega))
      obtain ⟨⟨a1, a2⟩, ⟨a3, a4⟩, a5, a6⟩ := bat_of hv
      have g0 : (w.alloc (.cells #[.int .i64 s, .int .i64 r, .int .i64 l] 24)).cell? ⟨w.heap.size, 0, none⟩ = some (.int .i64 s) := cell_of_row _ _ 0 _ _ (0, 0) (heap_alloc_new w _)
      have g1 : (w.alloc (.cells #[.int .i64 s, .int .i64 r, .int .i64 l] 24)).cell? ⟨w.heap.size, 1, none⟩ = some (.int .i64 r) := cell_of_row _ _ 1 _ _ (0, 0) (heap_alloc_new w _)
      have g2 : (w.alloc (.cells #[.int .i64 s, .int .i64 r, .int .i64 l] 24)).cell? ⟨w.heap.size, 2, none⟩ = some (.int .i64 l) := cell_of_row _ _ 2 _ _ (0, 0) (heap_alloc_new w _)
      go_enter Tryd.func13, Tryd.ntmps13
      go_wp2_with (go_at_call 9; refine (implBV _ _ _ _).mono ?_; rintro e w1 ⟨rfl, hb1⟩; replace g0 := cell_keep g0 hb1; replace g1 := cell_keep g1 hb1; replace g2 := cell_keep g2 hb1; replace hbx := seqB hbx hb1; clear hb1)
      clear g2
      go_loop [6, 8, 21] (fun lv u i => ∃ (k : Nat) (v : Int), k ≤ n ∧ i = .int .i64 k ∧ lv = .int .i64 v ∧ 0 ≤ v ∧ v ≤ s ∧ Hid (stRun s r l xs = stRun s r v (xs.drop k))) (fun _ _ i => n - (intOf i).toNat)
      case atStart => exact ⟨0, l, by omega, rfl, rfl, a5, a6, rfl⟩
      case round =>
        obtain ⟨k, v, hk, rfl, rfl, v0, v1, hp⟩ := hrel
        by_cases hlt : k < n
        · obtain ⟨b, o, rfl, _, hck⟩ := (HA.out.below hbx).int (k := k) (by have := HN.out; omega)
          have HS := Lib.hid (stRun_drop (s := s) (r := r) (l := v) (xs := xs) (k := k) (by have := HN.out; omega))
          generalize xs.getD k 0 = x at *
          by_cases x0 : -r ≤ x
          case neg =>
            have h1 := Lib.hid ((inB_not x (-r) r).2 (by omega))
            go_wp2_with fail
            go_ret2
            exact isRun_none (by rw [HO.out, hp.out, HS.out, stOk, h1.out]; rfl) hbx
          by_cases x1 : x ≤ r
          case neg =>
            have h1 := Lib.hid ((inB_not x (-r) r).2 (by omega))
            go_wp2_with fail
            go_ret2
            exact isRun_none (by rw [HO.out, hp.out, HS.out, stOk, h1.out]; rfl) hbx
          by_cases y0 : 0 ≤ v + x
          case neg =>
            have h1 := Lib.hid ((inB_not (v + x) 0 s).2 (by omega))
            go_wp2_with fail
            go_ret2
            exact isRun_none (by rw [HO.out, hp.out, HS.out, stOk, h1.out, Bool.and_false]; rfl) hbx
          by_cases y1 : v + x ≤ s
          case neg =>
            have h1 := Lib.hid ((inB_not (v + x) 0 s).2 (by omega))
            go_wp2_with fail
            go_ret2
            exact isRun_none (by rw [HO.out, hp.out, HS.out, stOk, h1.out, Bool.and_false]; rfl) hbx
          have h1 := Lib.hid ((inB_iff x (-r) r).2 ⟨x0, x1⟩)
          have h2 := Lib.hid ((inB_iff (v + x) 0 s).2 ⟨y0, y1⟩)
          go_wp2_with fail
          go_round
          case rel => exact ⟨k + 1, v + x, by omega, by go_num, rfl, y0, y1, by rw [Hid, hp.out, HS.out, stOk, h1.out, h2.out]; rfl⟩
          case measure => simp [intOf]; omega
        · go_wp2_with fail
          go_ret2
          exact isRun_some (by rw [HO.out, hp.out, List.drop_eq_nil_of_le (by have := HN.out; omega), stRun]) hbx
    · have HO := Lib.hid (stAll_long (s := s) (r := r) (l := l) (xs := xs) (by have := HN.out; omega))
      go_enter Tryd.func13, Tryd.ntmps13
      go_wp2_with (go_at_call 9; refine (implBV _ _ _ _).mono ?_; rintro e w1 ⟨rfl, hb1⟩)
      go_ret2
      exact isRun_none HO.out (seqB hbx hb1)
end Go.Proofs.YtjlbhpogmjjbiaaDoor
