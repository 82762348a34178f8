/- Contracts of the library's Index, Contains, Clone and BinarySearchFunc at entries. No statement is proved here. -/
import Derived.Test.YtdlphgknplomkaaLogS
namespace Go.Proofs.Ytdlphgknplomkaa
open Go.RowKit
theorem any_no {l : List Entry} {e : Entry} {n : Nat} (hn : l.length = n) (h : ∀ j, j < n → eqE e (eAt l j) = false) : l.any (eqE e) = false := by
  rw [List.any_eq_false]
  intro y hy
  obtain ⟨j, hj, rfl⟩ := List.getElem_of_mem hy
  have := h j (by omega)
  rw [eAt_get hj] at this
  simp [this]
theorem any_yes {l : List Entry} {e : Entry} {k : Nat} (hk : k < l.length) (h : eqE e (eAt l k) = true) : l.any (eqE e) = true := by
  rw [List.any_eq_true]
  exact ⟨eAt l k, by rw [eAt_get hk]; exact List.getElem_mem hk, h⟩

set_option maxHeartbeats 2000000 in
theorem indexE (A : Option Addr) (n c : Nat) (l : List Entry) (t u v x : Int) (w : World) (hn : l.length = n) (hm : n ≤ 1048576) (hA : Rd w A (flatEntry l)) :
    Calls Try.prog 33 #[.slice A n c, .agg #[.int .i64 t, .int .i64 u, .int .i64 v, .int .i64 x]] w fun e w' => ∃ z : Int, e = .returned (.int .i64 z) ∧ decide (0 ≤ z) = l.any (eqE ⟨t, u, v, x⟩) ∧ Below w.heap.size w w' := by
  have hb : Below w.heap.size w (w.alloc (.cells #[.int .i64 t, .int .i64 u, .int .i64 v, .int .i64 x] 30)) := allocB (Below.refl _ _) _
  have HA := Lib.hid (hA.below hb); clear hA
  have HN := Lib.hid hn; clear hn
  have BE := newboxL w (.cells #[.int .i64 t, .int .i64 u, .int .i64 v, .int .i64 x] 30)
  go_enter Try.func33, Try.ntmps33
  go_wp2_with fail
  go_loopw [8] (fun i wr => ∃ k : Nat, k ≤ n ∧ i = .int .i64 k ∧ Hid (∀ j, j < k → eqE ⟨t, u, v, x⟩ (eAt l j) = false) ∧ ∃ q, wr = (w.alloc (.cells #[.int .i64 t, .int .i64 u, .int .i64 v, .int .i64 x] 30)).drewN q) (fun i _ => n - (intOf i).toNat)
  case atStart => exact ⟨0, by omega, rfl, fun j hj => absurd hj (by omega), 0, rfl⟩
  case round =>
    obtain ⟨k, hk, rfl, hp, q, rfl⟩ := hrel
    by_cases hlt : k < n
    · obtain ⟨b, o, rfl, _, hc0, hc1, hc2, hc3⟩ := HA.out.atEntry (k := k) (by have := HN.out; omega)
      have e0 := boxcellL BE 0; have e1 := boxcellL BE 1; have e2 := boxcellL BE 2; have e3 := boxcellL BE 3
      simp at e0 e1 e2 e3
      have HGK : Hid (eAt l k = l.getD k Entry.zero) := rfl
      have HKL : Hid (k < l.length) := by rw [Hid, HN.out]; exact hlt
      generalize l.getD k Entry.zero = r at *
      obtain ⟨r0, r1, r2, r3⟩ := r
      dsimp only at hc0 hc1 hc2 hc3
      have hki : (k : Int) < (n : Int) := by omega
      have hk0 : (0 : Int) ≤ (k : Int) := by omega
      have hwr : ((w.alloc (.cells #[.int .i64 t, .int .i64 u, .int .i64 v, .int .i64 x] 30)).drewN q) = ((w.alloc (.cells #[.int .i64 t, .int .i64 u, .int .i64 v, .int .i64 x] 30)).drewN q) := rfl
      clear hwr
      by_cases h0 : r0 = t
      rotate_left
      · have h0' : ¬ t = r0 := fun e => h0 e.symm
        have hbb : eqE ⟨t, u, v, x⟩ ⟨r0, r1, r2, r3⟩ = false := by simp [eqE, h0']
        go_wp2_with fail
        go_quiet (fail)
        go_wp2_with fail
        have HNX : Hid (∀ j, j < k + 1 → eqE ⟨t, u, v, x⟩ (eAt l j) = false) := fun j hj => by
          rcases Nat.lt_or_ge j k with h | h
          · exact hp.out j h
          · have : j = k := by omega
            subst this; rw [HGK.out]; exact hbb
        go_roundw
        case rel => exact ⟨k + 1, by omega, by go_num, HNX, _, rfl⟩
        case measure => simp [intOf]; omega
      subst h0
      by_cases h1 : r1 = u
      rotate_left
      · have h1' : ¬ u = r1 := fun e => h1 e.symm
        have hbb : eqE ⟨r0, u, v, x⟩ ⟨r0, r1, r2, r3⟩ = false := by simp [eqE, h1']
        go_wp2_with fail
        go_quiet (fail)
        go_wp2_with fail
        have HNX : Hid (∀ j, j < k + 1 → eqE ⟨r0, u, v, x⟩ (eAt l j) = false) := fun j hj => by
          rcases Nat.lt_or_ge j k with h | h
          · exact hp.out j h
          · have : j = k := by omega
            subst this; rw [HGK.out]; exact hbb
        go_roundw
        case rel => exact ⟨k + 1, by omega, by go_num, HNX, _, rfl⟩
        case measure => simp [intOf]; omega
      subst h1
      by_cases h2 : r2 = v
      rotate_left
      · have h2' : ¬ v = r2 := fun e => h2 e.symm
        have hbb : eqE ⟨r0, r1, v, x⟩ ⟨r0, r1, r2, r3⟩ = false := by simp [eqE, h2']
        go_wp2_with fail
        go_quiet (fail)
        go_wp2_with fail
        have HNX : Hid (∀ j, j < k + 1 → eqE ⟨r0, r1, v, x⟩ (eAt l j) = false) := fun j hj => by
          rcases Nat.lt_or_ge j k with h | h
          · exact hp.out j h
          · have : j = k := by omega
            subst this; rw [HGK.out]; exact hbb
        go_roundw
        case rel => exact ⟨k + 1, by omega, by go_num, HNX, _, rfl⟩
        case measure => simp [intOf]; omega
      subst h2
      by_cases h3 : r3 = x
      rotate_left
      · have h3' : ¬ x = r3 := fun e => h3 e.symm
        have hbb : eqE ⟨r0, r1, r2, x⟩ ⟨r0, r1, r2, r3⟩ = false := by simp [eqE, h3']
        go_wp2_with fail
        go_quiet (fail)
        go_wp2_with fail
        have HNX : Hid (∀ j, j < k + 1 → eqE ⟨r0, r1, r2, x⟩ (eAt l j) = false) := fun j hj => by
          rcases Nat.lt_or_ge j k with h | h
          · exact hp.out j h
          · have : j = k := by omega
            subst this; rw [HGK.out]; exact hbb
        go_roundw
        case rel => exact ⟨k + 1, by omega, by go_num, HNX, _, rfl⟩
        case measure => simp [intOf]; omega
      subst h3
      have hbb : eqE ⟨r0, r1, r2, r3⟩ ⟨r0, r1, r2, r3⟩ = true := eqE_self _
      go_wp2_with fail
      go_quiet (fail)
      go_wp2_with fail
      go_ret
      exact ⟨k, rfl, by rw [any_yes HKL.out (by rw [HGK.out]; exact hbb)]; simp, drewNB (drewNB hb _) _⟩
    · have hki : ¬ ((k : Int) < (n : Int)) := by omega
      go_wp2_with fail
      go_ret
      exact ⟨-1, rfl, by rw [any_no HN.out (fun j hj => hp.out j (by omega))]; rfl, drewNB hb _⟩
set_option maxHeartbeats 1000000 in
theorem containsE (A : Option Addr) (n c : Nat) (l : List Entry) (t u v x : Int) (w : World) (hn : l.length = n) (hm : n ≤ 1048576) (hA : Rd w A (flatEntry l)) :
    Calls Try.prog 19 #[.slice A n c, .agg #[.int .i64 t, .int .i64 u, .int .i64 v, .int .i64 x]] w fun e w' => e = .returned (.bool (l.any (eqE ⟨t, u, v, x⟩))) ∧ Below w.heap.size w w' := by
  have hb : Below w.heap.size w (w.alloc (.cells #[.int .i64 t, .int .i64 u, .int .i64 v, .int .i64 x] 30)) := allocB (Below.refl _ _) _
  have HA := Lib.hid (hA.below hb); clear hA
  have BE := newboxL w (.cells #[.int .i64 t, .int .i64 u, .int .i64 v, .int .i64 x] 30)
  have e0 := boxcellL BE 0; have e1 := boxcellL BE 1; have e2 := boxcellL BE 2; have e3 := boxcellL BE 3
  simp at e0 e1 e2 e3
  go_enter Try.func19, Try.ntmps19
  go_wp2_with fail
  refine (indexE A n c l t u v x _ hn hm HA.out).mono ?_
  rintro e w1 ⟨z, rfl, hz, hbn⟩
  have HZ := Lib.hid hz; clear hz
  go_wp2_with fail
  go_ret
  exact ⟨ret_bool HZ.out, seqB hb hbn⟩
set_option maxRecDepth 100000 in
set_option maxHeartbeats 1000000 in
theorem cloneE (A : Option Addr) (n c : Nat) (l : List Entry) (w : World) (hn : l.length = n) (hm : n ≤ 1048576) (hF : A = none ∧ c = 0 ∨ ∃ g, A = some ⟨g, 0, none⟩) (hcap : n ≤ c) (hA : Rd w A (flatEntry l)) :
    Calls Try.prog 20 #[.slice A n c] w (RetRow 30 4 (flatEntry l) n w) := by
  have HA := Lib.hid hA; clear hA
  have HN := Lib.hid hn; clear hn
  obtain ⟨i0, hi0, hz0, hz1, hz2⟩ := info_parts info_Entry
  have HI := Lib.hid (And.intro hi0 (And.intro hz0 (And.intro hz1 hz2))); clear hi0 hz0 hz1 hz2
  have q22 : ∀ (w : World) (a : Option Addr) (n c n' c' : Nat), (binOp .eql 26 (.slice a n c) (.slice none n' c')).run Try.prog w = .ok (.bool a.isNone) w := fun w a n c n' c' => Lib.run_eql_slice_nil w _ _ a n c n' c' Try.underlying26
  rcases hF with ⟨rfl, rfl⟩ | ⟨g, rfl⟩
  · have h0 : n = 0 := by omega
    subst h0
    have hl : l = [] := List.eq_nil_of_length_eq_zero HN.out
    subst hl
    go_enter Try.func20, Try.ntmps20
    go_wp2_with fail
    go_ret
    exact ⟨none, 0, rfl, row_zero, Below.refl _ _⟩
  · have hlit : (w.alloc (.cells #[] 30)).ownsRow w.heap.size 30 4 (.slice (some ⟨w.heap.size, 0, none⟩) 0 0) 0 [] := World.ownsRow_lit w #[] 0 (Nat.le_refl _) (Nat.zero_le _) rfl
    have hrd := HA.out.below (allocB (Below.refl _ _) (.cells #[] 30))
    go_enter Try.func20, Try.ntmps20
    go_wp2_with (at_builtin; refine wpList_appN _ rfl _ _ _ rfl w.heap.size 30 i0 _ 4 32 Try.underlying26 HI.out rfl (by omega) _ 0 _ rfl hlit (some ⟨g, 0, none⟩) n c (flatEntry l) rfl (flatE_len l n HN.out) hrd (fun e => by cases e) (flatE_one l) (by omega) (by omega) (by simp) ?_; intro v' w9 hown9 hg9)
    have hb9 : Below w.heap.size w w9 := grown_row (allocB (Below.refl _ _) _) rfl hlit hg9
    obtain ⟨B9, d9, rfl, hr9⟩ := row_is (n' := n) (cs' := flatEntry l) hown9 (by omega) rfl
    go_ret
    exact ⟨B9, d9, rfl, hr9, hb9⟩
end Go.Proofs.Ytdlphgknplomkaa
