/- Contracts of the small functions that every law of this seat goes through: l1In, powerValid, toIntS, eqIntS, markIntS, heldIntS. No statement is proved here. -/
import Derived.Test.YthekihggedgofaaChecked
import Derived.Test.YthekihggedgofaaLib
import Derived.Outline
import Derived.Deep.QuietTactic
import Derived.BigQuiet
import Derived.Deep.LoopGhost
import Derived.OwnWalk
namespace Go.Proofs.Ythekihggedgofaa
open Go.RowKit

def inB (n lo hi : Int) : Bool := decide (lo ≤ n) && decide (n ≤ hi)
theorem inB_iff (n lo hi : Int) : inB n lo hi = true ↔ lo ≤ n ∧ n ≤ hi := by simp [inB]
theorem inB_not (n lo hi : Int) : inB n lo hi = false ↔ n < lo ∨ hi < n := by simp [inB]; omega

theorem l1In_any (n lo hi : Int) (w : World) :
    Calls Try.prog 17 #[.int .i64 n, .int .i64 lo, .int .i64 hi] w fun e w' => e = .returned (.bool (inB n lo hi)) ∧ w = w' := by
  by_cases h1 : lo ≤ n
  · by_cases h2 : n ≤ hi
    · have e : inB n lo hi = true := by simp [inB, h1, h2]
      rw [e]; clear e
      go_enter Try.func17, Try.ntmps17
      go_wp2
      go_ret
      exact ⟨rfl, rfl⟩
    · have e : inB n lo hi = false := by simp [inB, h1, h2]
      rw [e]; clear e
      go_enter Try.func17, Try.ntmps17
      go_wp2
      go_ret
      exact ⟨rfl, rfl⟩
  · have e : inB n lo hi = false := by simp [inB, h1]
    rw [e]; clear e
    go_enter Try.func17, Try.ntmps17
    go_wp2
    go_ret
    exact ⟨rfl, rfl⟩

theorem pv_any (n : Int) (w : World) :
    Calls Try.prog 21 #[.int .i64 n] w fun e w' => e = .returned (.bool (inB n 0 999)) ∧ w = w' := by
  by_cases h1 : 0 ≤ n
  · by_cases h2 : n ≤ 999
    · have e : inB n 0 999 = true := by simp [inB, h1, h2]
      rw [e]; clear e
      go_enter Try.func21, Try.ntmps21
      go_wp2
      go_ret
      exact ⟨rfl, rfl⟩
    · have e : inB n 0 999 = false := by simp [inB, h1, h2]
      rw [e]; clear e
      go_enter Try.func21, Try.ntmps21
      go_wp2
      go_ret
      exact ⟨rfl, rfl⟩
  · have e : inB n 0 999 = false := by simp [inB, h1]
    rw [e]; clear e
    go_enter Try.func21, Try.ntmps21
    go_wp2
    go_ret
    exact ⟨rfl, rfl⟩

theorem info_int : (Try.prog.info? 3).map (fun i => (i.zero, i.size, i.bytes)) = some (some (.int .i64 0), 1, 8) := by kernel_rfl

/-- what a copy holds after k rounds -/
def copied (xs : List Int) (n k : Nat) : List Value := ints (xs.take k) ++ List.replicate (n - k) (.int .i64 0)
theorem copied_zero (xs : List Int) (n : Nat) : copied xs n 0 = List.replicate n (.int .i64 0) := by simp [copied, ints]
theorem copied_all (xs : List Int) : copied xs xs.length xs.length = ints xs := by simp [copied]
theorem copied_succ (xs : List Int) (n k : Nat) (hn : xs.length = n) (hk : k < n) : (copied xs n k).set k (.int .i64 (xs.getD k 0)) = copied xs n (k + 1) := by
  have h : k < xs.length := by omega
  unfold copied ints
  rw [List.take_succ_eq_append_getElem h, List.map_append]
  obtain ⟨m, hm⟩ : ∃ m, n - k = m + 1 := ⟨n - k - 1, by omega⟩
  rw [hm, show n - (k + 1) = m by omega, List.replicate_succ]
  rw [List.set_append_right _ _ (by simp; omega)]
  simp [h, show min k xs.length = k by omega]

set_option maxHeartbeats 400000 in
theorem toIntS_any (A : Option Addr) (n c : Nat) (xs : List Int) (w : World) (hn : xs.length = n) (hm : n ≤ 1048576) (hA : Rd w A (ints xs)) :
    Calls Try.prog 19 #[.slice A n c] w fun e w' => e = .returned (.slice (some ⟨w.heap.size, 0, none⟩) n n) ∧ Own w' w.heap.size 3 1 (some ⟨w.heap.size, 0, none⟩) n (ints xs) ∧ Below w.heap.size w w' := by
  have HA := Lib.hid hA; clear hA
  have HN := Lib.hid hn; clear hn
  obtain ⟨i0, hi0, hz0, hz1, hz2⟩ := info_parts info_int
  go_enter Try.func19, Try.ntmps19
  go_wp2_with (at_make; refine wpList_make_full _ rfl _ _ _ rfl w.heap.size 3 i0 (.int .i64 0) 1 Try.underlying22 hi0 hz0 hz1 .i64 .i64 n n n rfl rfl rfl rfl (by rw [hz2]; omega) (by unfold maxLen; omega) (Nat.le_refl _) ?_; intro w1 hown hgr)
  have hb0 : Below w.heap.size w w1 := (Below.refl _ _).grown hgr (Nat.le_refl _) (by simp)
  have hown0 : w1.ownsRow w.heap.size 3 1 (.slice (some ⟨w.heap.size, 0, none⟩) n n) n (copied xs n 0) := by
    rw [copied_zero]; simpa [Value.cells, toList_madeCells_one] using hown
  clear hown hgr hi0 hz0 hz1 hz2
  go_loopw [4] (fun i wr => ∃ k : Nat, k ≤ n ∧ i = .int .i64 k ∧ wr.ownsRow w.heap.size 3 1 (.slice (some ⟨w.heap.size, 0, none⟩) n n) n (copied xs n k) ∧ Below w.heap.size w wr) (fun i _ => n - (intOf i).toNat)
  case atStart => exact ⟨0, by omega, rfl, hown0, hb0⟩
  case round =>
    clear hown0 hb0
    obtain ⟨k, hk, rfl, hown, hb⟩ := hrel
    by_cases hlt : k < n
    · obtain ⟨b, o, rfl, hbl, hck⟩ := HA.out.int (k := k) (by have := HN.out; omega)
      have hcr := (hb.cell (p := ⟨b, o + k, none⟩) hbl).trans hck
      clear hck
      have hfr := hown.frozenAt k
      obtain ⟨u, hcl⟩ := row_cell hown (j := k) (by omega)
      obtain ⟨hst, hgr⟩ := hown.stored k (.int .i64 (xs.getD k 0))
      rw [copied_succ xs n k HN.out hlt] at hst
      have hb' := hb.setCell (p := ⟨w.heap.size, k, none⟩) (Nat.le_refl _) (.int .i64 (xs.getD k 0))
      clear hown hb hgr
      generalize xs.getD k 0 = x at *
      go_wp2_with fail
      go_roundw
      case rel => exact ⟨k + 1, by omega, by go_num, hst, hb'⟩
      case measure => simp [intOf]; omega
    · go_wp2_with fail
      go_ret
      have hkn : k = n := by omega
      subst hkn
      have := HN.out
      subst this
      rw [copied_all] at hown
      obtain ⟨A', c', e, ho⟩ := own_of_row hown
      cases e
      exact ⟨rfl, ho, hb⟩

set_option maxHeartbeats 400000 in
/-- two slices that read alike are equal -/
theorem eqIntS_same (A B : Option Addr) (n c d : Nat) (xs : List Int) (w : World) (hn : xs.length = n) (hm : n ≤ 1048576) (hA : Rd w A (ints xs)) (hB : Rd w B (ints xs)) :
    Calls Try.prog 12 #[.slice A n c, .slice B n d] w fun e w' => e = .returned (.bool true) ∧ ∃ q, w' = w.drewN q := by
  have HA := Lib.hid hA; clear hA
  have HB := Lib.hid hB; clear hB
  have HN := Lib.hid hn; clear hn
  have hne : ((n : Int) != (n : Int)) = false := by simp
  go_enter Try.func12, Try.ntmps12
  go_wp2_with fail
  go_loopw [5] (fun i wr => ∃ k : Nat, k ≤ n ∧ i = .int .i64 k ∧ ∃ q, wr = w.drewN q) (fun i _ => n - (intOf i).toNat)
  case atStart => exact ⟨0, by omega, rfl, 0, rfl⟩
  case round =>
    obtain ⟨k, hk, rfl, q, rfl⟩ := hrel
    by_cases hlt : k < n
    · obtain ⟨b, o, rfl, _, hc1⟩ := HA.out.int (k := k) (by have := HN.out; omega)
      obtain ⟨b2, o2, rfl, _, hc2⟩ := HB.out.int (k := k) (by have := HN.out; omega)
      generalize xs.getD k 0 = x at *
      have hx : (x != x) = false := by simp
      go_wp2_with fail
      go_quiet (fail)
      go_wp2_with fail
      go_roundw
      case rel => exact ⟨k + 1, by omega, by go_num, _, rfl⟩
      case measure => simp [intOf]; omega
    · go_wp2_with fail
      go_ret
      exact ⟨rfl, q, rfl⟩

/-- what marking leaves: the numbers from k on -/
def marks (k : Int) (n : Nat) : List Int := (List.range n).map fun (i : Nat) => k + (i : Int)
theorem marks_length (k : Int) (n : Nat) : (marks k n).length = n := by simp [marks]
theorem marks_getD (k : Int) (n i : Nat) (h : i < n) : (marks k n).getD i 0 = k + i := by simp [marks, h]

theorem marked_succ (cs : List Value) (j : Nat) (m : Int) (hl : j < cs.length) (ht : cs.take j = ints (marks m j)) : (cs.set j (.int .i64 (m + j))).take (j + 1) = ints (marks m (j + 1)) := by
  rw [List.take_succ_eq_append_getElem (by simpa using hl), List.take_set, List.set_eq_of_length_le (by simp; omega), ht]
  simp [ints, marks, List.range_succ]
theorem marked_at (cs : List Value) (j : Nat) (m x : Int) (hl : j < cs.length) (hx : x = m + (j : Nat)) (ht : cs.take j = ints (marks m j)) : (cs.set j (.int .i64 x)).take (j + 1) = ints (marks m (j + 1)) := by
  subst hx; exact marked_succ cs j m hl ht

set_option maxHeartbeats 400000 in
theorem markIntS_own (base : Nat) (A : Option Addr) (n c : Nat) (m : Int) (cs : List Value) (w : World) (hm : n ≤ 1048576) (h0 : 0 ≤ m) (h1 : m ≤ 10000000) (hA : Own w base 3 1 A n cs) :
    Calls Try.prog 14 #[.slice A n c, .int .i64 m] w fun e w' => e = .returned (.int .i64 (m + n)) ∧ Own w' base 3 1 A n (ints (marks m n)) ∧ Turned A n w w' := by
  have HA := Lib.hid hA; clear hA
  go_enter Try.func14, Try.ntmps14
  go_wp2_with fail
  go_loopw [1, 5] (fun q i wr => ∃ k : Nat, k ≤ n ∧ i = .int .i64 k ∧ q = .int .i64 (m + k) ∧ (∃ cs', Own wr base 3 1 A n cs' ∧ cs'.take k = ints (marks m k)) ∧ Turned A n w wr) (fun _ i _ => n - (intOf i).toNat)
  case atStart => exact ⟨0, by omega, rfl, by go_num, ⟨cs, HA.out, by simp [ints, marks]⟩, Turned.refl _ _ _⟩
  case round =>
    obtain ⟨k, hk, rfl, rfl, ⟨cs', hown, ht⟩, honly⟩ := hrel
    by_cases hlt : k < n
    · have HT := Lib.hid ht; clear ht
      have hpos : 0 < n := by omega
      obtain ⟨g, rfl, _, _⟩ := hown.form hpos
      have hfr := hown.frozen hpos k
      obtain ⟨u, hcl⟩ := hown.has hpos k (by omega)
      have hst := hown.set k (.int .i64 (m + k))
      have ho' := honly.setCell hpos k (.int .i64 (m + k))
      have hl := Lib.hid hown.1
      clear hown honly
      go_wp2_with fail
      go_roundw
      case rel =>
        exact ⟨k + 1, by omega, by go_num, by go_num, ⟨_, hst, marked_succ _ _ _ (by have := hl.out; omega) HT.out⟩, ho'⟩
      case measure => simp [intOf]; omega
    · go_wp2_with fail
      go_ret
      have hkn : k = n := by omega
      subst hkn
      have hl := hown.1
      rw [List.take_of_length_le (by omega)] at ht
      subst ht
      exact ⟨rfl, hown, honly⟩

set_option maxHeartbeats 400000 in
theorem heldIntS_yes (A : Option Addr) (n c : Nat) (m : Int) (w : World) (hm : n ≤ 1048576) (h0 : 0 ≤ m) (h1 : m ≤ 10000000) (hA : Rd w A (ints (marks m n))) :
    Calls Try.prog 15 #[.slice A n c, .int .i64 m] w fun e w' => e = .returned (.int .i64 (m + n)) ∧ w = w' := by
  have HA := Lib.hid hA; clear hA
  go_enter Try.func15, Try.ntmps15
  go_wp2_with fail
  go_loop [1, 5] (fun q i => ∃ k : Nat, k ≤ n ∧ i = .int .i64 k ∧ q = .int .i64 (m + k)) (fun _ i => n - (intOf i).toNat)
  case atStart => exact ⟨0, by omega, rfl, by go_num⟩
  case round =>
    obtain ⟨k, hk, rfl, rfl⟩ := hrel
    by_cases hlt : k < n
    · obtain ⟨b, o, rfl, _, hc1⟩ := HA.out.int (k := k) (by rw [marks_length]; exact hlt)
      rw [marks_getD m n k hlt] at hc1
      have hx : ((m + (k : Int)) != (m + (k : Int))) = false := by simp
      go_wp2_with fail
      go_round
      case rel => exact ⟨k + 1, by omega, by go_num, by go_num⟩
      case measure => simp [intOf]; omega
    · go_wp2_with fail
      go_ret
      have hkn : k = n := by omega
      subst hkn
      exact ⟨rfl, rfl⟩
end Go.Proofs.Ythekihggedgofaa
