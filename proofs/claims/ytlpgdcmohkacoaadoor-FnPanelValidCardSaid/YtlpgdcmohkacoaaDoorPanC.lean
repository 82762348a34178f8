/- Contracts of PanelValid, of the reference and of the program. No statement is proved here. -/
import Derived.Test.YtlpgdcmohkacoaaDoorAll
import Derived.Test.YtlpgdcmohkacoaaDoorFrS
import Derived.Test.YtlpgdcmohkacoaaDoorCmp
import Derived.BigQuiet
namespace Go.Proofs.YtlpgdcmohkacoaaDoor
open Go.RowKit

def panB (on : List Bool) (who i : Int) (to : Bool) (left : Int) : Bool :=
  inB on.length 1 10 && (if who = -1 then decide (i = 0) && (!to && decide (left = 0)) else inB who 0 9 && (inB i 0 ((on.length : Int) - 1) && ((on.getD i.toNat false != to) && inB left 1 3)))
theorem l1In_is (n lo hi : Int) (v : Bool) (w : World) (h : inB n lo hi = v) :
    Calls Tryd.prog 10 #[.int .i64 n, .int .i64 lo, .int .i64 hi] w fun e w' => e = .returned (.bool v) ∧ w = w' := by
  subst h; exact l1In_any n lo hi w
theorem pan_len {on : List Bool} {who i left : Int} {to : Bool} (h : inB on.length 1 10 = false) : panB on who i to left = false := by rw [panB, h, Bool.false_and]
theorem pan_none {on : List Bool} {i left : Int} {to : Bool} (h : inB on.length 1 10 = true) : panB on (-1) i to left = (decide (i = 0) && (!to && decide (left = 0))) := by rw [panB, h, if_pos rfl, Bool.true_and]
theorem pan_some {on : List Bool} {who i left : Int} {to : Bool} (h : inB on.length 1 10 = true) (hw : (who == -1) = false) : panB on who i to left = (inB who 0 9 && (inB i 0 ((on.length : Int) - 1) && ((on.getD i.toNat false != to) && inB left 1 3))) := by
  rw [panB, h, if_neg (by simpa using hw), Bool.true_and]

set_option maxHeartbeats 1000000 in
theorem specPnV (A : Option Addr) (n c : Nat) (on : List Bool) (who i : Int) (to : Bool) (left : Int) (w : World) (hn : on.length = n) (hm : n ≤ 1048576) (hA : Rd w A (bools on)) :
    Calls Tryd.prog 6 #[.agg #[.slice A n c, .int .i64 who, .int .i64 i, .bool to, .int .i64 left]] w fun e w' => e = .returned (.bool (panB on who i to left)) ∧ Below w.heap.size w w' := by
  have HA := Lib.hid (hA.below (allocB (Below.refl _ _) (.cells #[.slice A n c, .int .i64 who, .int .i64 i, .bool to, .int .i64 left] 25))); clear hA
  have HN := Lib.hid hn; clear hn

  cases hl : inB (n : Int) 1 10 with
  | false =>
    have HE := Lib.hid (pan_len (who := who) (i := i) (left := left) (to := to) (show inB on.length 1 10 = false by rw [HN.out]; exact hl))
    go_enter Tryd.func6, Tryd.ntmps6
    go_wp2_with (go_at_call 10; refine (l1In_any _ _ _ _).mono ?_; rintro e w' ⟨rfl, rfl⟩)
    go_ret
    exact ⟨ret_bool (by first | exact HE.out.symm | (rw [HE.out]; simp) | (rw [HE.out]; simp; omega)), allocB (Below.refl _ _) _⟩
  | true =>
    have hl' := (inB_iff _ _ _).1 hl
    have HL : Hid (inB on.length 1 10 = true) := by rw [Hid, HN.out]; exact hl
    cases hw : (who == -1) with
    | true =>
      obtain rfl : who = -1 := by simpa using hw
      have HE := Lib.hid (pan_none (i := i) (left := left) (to := to) HL.out)
      by_cases h1 : i = 0
      · subst h1
        cases to with
        | true =>
          go_enter Tryd.func6, Tryd.ntmps6
          go_wp2_with (go_at_call 10; refine (l1In_any _ _ _ _).mono ?_; rintro e w' ⟨rfl, rfl⟩)
          go_ret
          exact ⟨ret_bool (by first | exact HE.out.symm | (rw [HE.out]; simp) | (rw [HE.out]; simp; omega)), allocB (Below.refl _ _) _⟩
        | false =>
          go_enter Tryd.func6, Tryd.ntmps6
          go_wp2_with (go_at_call 10; refine (l1In_any _ _ _ _).mono ?_; rintro e w' ⟨rfl, rfl⟩)
          go_ret
          exact ⟨ret_bool (by first | exact HE.out.symm | (rw [HE.out]; simp) | (rw [HE.out]; simp; omega)), allocB (Below.refl _ _) _⟩
      · have h1' : (i == 0) = false := by simpa using h1
        go_enter Tryd.func6, Tryd.ntmps6
        go_wp2_with (go_at_call 10; refine (l1In_any _ _ _ _).mono ?_; rintro e w' ⟨rfl, rfl⟩)
        go_ret
        exact ⟨ret_bool (by rw [HE.out]; simp [h1]), allocB (Below.refl _ _) _⟩
    | false =>
      have HE := Lib.hid (pan_some (i := i) (left := left) (to := to) HL.out hw)
      have HFF : Hid (∀ x : Bool, (inB who 0 9 && (inB i 0 ((on.length : Int) - 1) && ((on.getD i.toNat false != to) && inB left 1 3))) = x → panB on who i to left = x) := fun x h => HE.out.trans h
      clear HE
      cases h1 : inB who 0 9 with
      | false =>
        have HF := Lib.hid (HFF.out false (by rw [h1]; rfl)); clear HFF
        go_enter Tryd.func6, Tryd.ntmps6
        go_wp2_with (go_at_call 10; refine (l1In_any _ _ _ _).mono ?_; rintro e w' ⟨rfl, rfl⟩)
        go_quiet ((go_at_call 10; first | exact quiet_left (l1In_is _ _ _ _ _ h1) | exact quiet_left (l1In_is _ _ _ _ _ h2) | exact quiet_left (l1In_is _ _ _ _ _ h4)))
        go_wp2_with fail
        go_ret
        exact ⟨ret_bool HF.out.symm, drewNB (allocB (Below.refl _ _) _) _⟩
      | true =>
        cases h2 : inB i 0 ((n : Int) - 1) with
        | false =>
          have HF := Lib.hid (HFF.out false (by rw [h1, HN.out, h2]; rfl)); clear HFF
          go_enter Tryd.func6, Tryd.ntmps6
          go_wp2_with (go_at_call 10; refine (l1In_any _ _ _ _).mono ?_; rintro e w' ⟨rfl, rfl⟩)
          go_quiet ((go_at_call 10; first | exact quiet_left (l1In_is _ _ _ _ _ h1) | exact quiet_left (l1In_is _ _ _ _ _ h2) | exact quiet_left (l1In_is _ _ _ _ _ h4)))
          go_wp2_with fail
          go_ret
          exact ⟨ret_bool HF.out.symm, drewNB (allocB (Below.refl _ _) _) _⟩
        | true =>
          have h2' := (inB_iff _ _ _).1 h2
          obtain ⟨k, rfl⟩ : ∃ k : Nat, i = k := ⟨i.toNat, by omega⟩
          obtain ⟨g, o, rfl, _, hck⟩ := HA.out.bool (k := k) (by have := HN.out; omega)
          have hkn : (k : Int) < (n : Int) := by omega
          have hwr : IntKind.i64.wrap ((n : Int) - 1) = (n : Int) - 1 := IntWalk.i64_in _ (by omega)
          have hk0 : (0 : Int) ≤ (k : Int) := by omega
          generalize hy : on.getD k false = y at *
          have HY := Lib.hid hy; clear hy
          cases y with
          | true =>
            cases to with
            | true =>
              have HF := Lib.hid (HFF.out false (by rw [h1, HN.out, h2, Int.toNat_natCast, HY.out]; rfl)); clear HFF
              go_enter Tryd.func6, Tryd.ntmps6
              go_wp2_with (go_at_call 10; refine (l1In_any _ _ _ _).mono ?_; rintro e w' ⟨rfl, rfl⟩)
              go_quiet ((go_at_call 10; first | exact quiet_left (l1In_is _ _ _ _ _ h1) | exact quiet_left (l1In_is _ _ _ _ _ h2) | exact quiet_left (l1In_is _ _ _ _ _ h4)))
              go_wp2_with fail
              go_ret
              exact ⟨ret_bool HF.out.symm, drewNB (allocB (Below.refl _ _) _) _⟩
            | false =>
              have HF := Lib.hid (HFF.out (inB left 1 3) (by rw [h1, HN.out, h2, Int.toNat_natCast, HY.out]; rfl)); clear HFF
              generalize h4 : inB left 1 3 = V at *
              go_enter Tryd.func6, Tryd.ntmps6
              go_wp2_with (go_at_call 10; refine (l1In_any _ _ _ _).mono ?_; rintro e w' ⟨rfl, rfl⟩)
              go_quiet ((go_at_call 10; first | exact quiet_left (l1In_is _ _ _ _ _ h1) | exact quiet_left (l1In_is _ _ _ _ _ h2) | exact quiet_left (l1In_is _ _ _ _ _ h4)))
              go_wp2_with fail
              go_ret
              exact ⟨ret_bool HF.out.symm, drewNB (allocB (Below.refl _ _) _) _⟩
          | false =>
            cases to with
            | true =>
              have HF := Lib.hid (HFF.out (inB left 1 3) (by rw [h1, HN.out, h2, Int.toNat_natCast, HY.out]; rfl)); clear HFF
              generalize h4 : inB left 1 3 = V at *
              go_enter Tryd.func6, Tryd.ntmps6
              go_wp2_with (go_at_call 10; refine (l1In_any _ _ _ _).mono ?_; rintro e w' ⟨rfl, rfl⟩)
              go_quiet ((go_at_call 10; first | exact quiet_left (l1In_is _ _ _ _ _ h1) | exact quiet_left (l1In_is _ _ _ _ _ h2) | exact quiet_left (l1In_is _ _ _ _ _ h4)))
              go_wp2_with fail
              go_ret
              exact ⟨ret_bool HF.out.symm, drewNB (allocB (Below.refl _ _) _) _⟩
            | false =>
              have HF := Lib.hid (HFF.out false (by rw [h1, HN.out, h2, Int.toNat_natCast, HY.out]; rfl)); clear HFF
              go_enter Tryd.func6, Tryd.ntmps6
              go_wp2_with (go_at_call 10; refine (l1In_any _ _ _ _).mono ?_; rintro e w' ⟨rfl, rfl⟩)
              go_quiet ((go_at_call 10; first | exact quiet_left (l1In_is _ _ _ _ _ h1) | exact quiet_left (l1In_is _ _ _ _ _ h2) | exact quiet_left (l1In_is _ _ _ _ _ h4)))
              go_wp2_with fail
              go_ret
              exact ⟨ret_bool HF.out.symm, drewNB (allocB (Below.refl _ _) _) _⟩
set_option maxHeartbeats 1000000 in
theorem implPnV (A : Option Addr) (n c : Nat) (on : List Bool) (who i : Int) (to : Bool) (left : Int) (w : World) (hn : on.length = n) (hm : n ≤ 1048576) (hA : Rd w A (bools on)) :
    Calls Tryd.prog 5 #[.agg #[.slice A n c, .int .i64 who, .int .i64 i, .bool to, .int .i64 left]] w fun e w' => e = .returned (.bool (panB on who i to left)) ∧ Below w.heap.size w w' := by
  have HA := Lib.hid (hA.below (allocB (Below.refl _ _) (.cells #[.slice A n c, .int .i64 who, .int .i64 i, .bool to, .int .i64 left] 25))); clear hA
  have HN := Lib.hid hn; clear hn

  cases hl : inB (n : Int) 1 10 with
  | false =>
    have HE := Lib.hid (pan_len (who := who) (i := i) (left := left) (to := to) (show inB on.length 1 10 = false by rw [HN.out]; exact hl))
    rcases (inB_not _ _ _).1 hl with h1 | h1
    · go_enter Tryd.func5, Tryd.ntmps5
      go_wp2_with fail
      go_ret
      exact ⟨ret_bool (by first | exact HE.out.symm | (rw [HE.out]; simp) | (rw [HE.out]; simp; omega)), allocB (Below.refl _ _) _⟩
    · go_enter Tryd.func5, Tryd.ntmps5
      go_wp2_with fail
      go_ret
      exact ⟨ret_bool (by first | exact HE.out.symm | (rw [HE.out]; simp) | (rw [HE.out]; simp; omega)), allocB (Below.refl _ _) _⟩
  | true =>
    have hl' := (inB_iff _ _ _).1 hl
    have HL : Hid (inB on.length 1 10 = true) := by rw [Hid, HN.out]; exact hl
    cases hw : (who == -1) with
    | true =>
      obtain rfl : who = -1 := by simpa using hw
      have HE := Lib.hid (pan_none (i := i) (left := left) (to := to) HL.out)
      by_cases h1 : i = 0
      · subst h1
        cases to with
        | true =>
          go_enter Tryd.func5, Tryd.ntmps5
          go_wp2_with fail
          go_ret
          exact ⟨ret_bool (by first | exact HE.out.symm | (rw [HE.out]; simp) | (rw [HE.out]; simp; omega)), allocB (Below.refl _ _) _⟩
        | false =>
          go_enter Tryd.func5, Tryd.ntmps5
          go_wp2_with fail
          go_ret
          exact ⟨ret_bool (by first | exact HE.out.symm | (rw [HE.out]; simp) | (rw [HE.out]; simp; omega)), allocB (Below.refl _ _) _⟩
      · have h1' : (i == 0) = false := by simpa using h1
        go_enter Tryd.func5, Tryd.ntmps5
        go_wp2_with fail
        go_ret
        exact ⟨ret_bool (by rw [HE.out]; simp [h1]), allocB (Below.refl _ _) _⟩
    | false =>
      have HE := Lib.hid (pan_some (i := i) (left := left) (to := to) HL.out hw)
      have HFF : Hid (∀ x : Bool, (inB who 0 9 && (inB i 0 ((on.length : Int) - 1) && ((on.getD i.toNat false != to) && inB left 1 3))) = x → panB on who i to left = x) := fun x h => HE.out.trans h
      clear HE
      by_cases a1 : 0 ≤ who
      case neg =>
        have d1 : decide (0 ≤ who) = false := decide_eq_false a1
        have HF := Lib.hid (HFF.out false (by simp [inB, a1]))
        go_enter Tryd.func5, Tryd.ntmps5
        go_wp2_with fail
        go_quiet (fail)
        go_wp2_with fail
        go_ret
        exact ⟨ret_bool HF.out.symm, drewNB (allocB (Below.refl _ _) _) _⟩
      by_cases a2 : who ≤ 9
      case neg =>
        have d2 : decide (who ≤ 9) = false := decide_eq_false a2
        have HF := Lib.hid (HFF.out false (by simp [inB, a2]))
        go_enter Tryd.func5, Tryd.ntmps5
        go_wp2_with fail
        go_quiet (fail)
        go_wp2_with fail
        go_ret
        exact ⟨ret_bool HF.out.symm, drewNB (allocB (Below.refl _ _) _) _⟩
      by_cases a3 : 0 ≤ i
      case neg =>
        have d3 : decide (0 ≤ i) = false := decide_eq_false a3
        have HF := Lib.hid (HFF.out false (by simp [inB, a3]))
        go_enter Tryd.func5, Tryd.ntmps5
        go_wp2_with fail
        go_quiet (fail)
        go_wp2_with fail
        go_ret
        exact ⟨ret_bool HF.out.symm, drewNB (allocB (Below.refl _ _) _) _⟩
      by_cases a4 : i < (n : Int)
      case neg =>
        have d4 : decide (i < (n : Int)) = false := decide_eq_false a4
        have HF := Lib.hid (HFF.out false (by rw [show inB i 0 ((on.length : Int) - 1) = false from (inB_not _ _ _).2 (by rw [HN.out]; omega)]; simp))
        go_enter Tryd.func5, Tryd.ntmps5
        go_wp2_with fail
        go_quiet (fail)
        go_wp2_with fail
        go_ret
        exact ⟨ret_bool HF.out.symm, drewNB (allocB (Below.refl _ _) _) _⟩
      obtain ⟨k, rfl⟩ : ∃ k : Nat, i = k := ⟨i.toNat, by omega⟩
      obtain ⟨g, o, rfl, _, hck⟩ := HA.out.bool (k := k) (by have := HN.out; omega)
      have e1 : inB who 0 9 = true := by rw [inB_iff]; omega
      have e2 : inB (k : Int) 0 ((on.length : Int) - 1) = true := by rw [inB_iff, HN.out]; omega
      have E12 := Lib.hid (And.intro e1 e2)
      clear e1 e2
      generalize hy : on.getD k false = y at *
      have HY := Lib.hid hy; clear hy
      cases y with
      | true =>
        cases to with
        | true =>
          have HF := Lib.hid (HFF.out false (by rw [E12.out.1, E12.out.2, Int.toNat_natCast, HY.out]; rfl)); clear HFF
          go_enter Tryd.func5, Tryd.ntmps5
          go_wp2_with fail
          go_quiet (fail)
          go_wp2_with fail
          go_ret
          exact ⟨ret_bool HF.out.symm, drewNB (allocB (Below.refl _ _) _) _⟩
        | false =>
          by_cases a5 : 1 ≤ left
          · have HF := Lib.hid (HFF.out (decide (left ≤ 3)) (by rw [E12.out.1, E12.out.2, Int.toNat_natCast, HY.out]; simp [inB, a5])); clear HFF
            go_enter Tryd.func5, Tryd.ntmps5
            go_wp2_with fail
            go_quiet (fail)
            go_wp2_with fail
            go_ret
            exact ⟨ret_bool HF.out.symm, drewNB (allocB (Below.refl _ _) _) _⟩
          · have d5 : decide (1 ≤ left) = false := decide_eq_false a5
            have HF := Lib.hid (HFF.out false (by rw [E12.out.1, E12.out.2, Int.toNat_natCast, HY.out]; simp [inB, a5])); clear HFF
            go_enter Tryd.func5, Tryd.ntmps5
            go_wp2_with fail
            go_quiet (fail)
            go_wp2_with fail
            go_ret
            exact ⟨ret_bool HF.out.symm, drewNB (allocB (Below.refl _ _) _) _⟩
      | false =>
        cases to with
        | true =>
          by_cases a5 : 1 ≤ left
          · have HF := Lib.hid (HFF.out (decide (left ≤ 3)) (by rw [E12.out.1, E12.out.2, Int.toNat_natCast, HY.out]; simp [inB, a5])); clear HFF
            go_enter Tryd.func5, Tryd.ntmps5
            go_wp2_with fail
            go_quiet (fail)
            go_wp2_with fail
            go_ret
            exact ⟨ret_bool HF.out.symm, drewNB (allocB (Below.refl _ _) _) _⟩
          · have d5 : decide (1 ≤ left) = false := decide_eq_false a5
            have HF := Lib.hid (HFF.out false (by rw [E12.out.1, E12.out.2, Int.toNat_natCast, HY.out]; simp [inB, a5])); clear HFF
            go_enter Tryd.func5, Tryd.ntmps5
            go_wp2_with fail
            go_quiet (fail)
            go_wp2_with fail
            go_ret
            exact ⟨ret_bool HF.out.symm, drewNB (allocB (Below.refl _ _) _) _⟩
        | false =>
          have HF := Lib.hid (HFF.out false (by rw [E12.out.1, E12.out.2, Int.toNat_natCast, HY.out]; rfl)); clear HFF
          go_enter Tryd.func5, Tryd.ntmps5
          go_wp2_with fail
          go_quiet (fail)
          go_wp2_with fail
          go_ret
          exact ⟨ret_bool HF.out.symm, drewNB (allocB (Below.refl _ _) _) _⟩
end Go.Proofs.YtlpgdcmohkacoaaDoor
