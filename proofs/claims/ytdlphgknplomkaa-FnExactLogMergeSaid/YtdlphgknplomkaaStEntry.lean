/- The contracts of the laws' own small functions on the struct Entry and on slices of it (copying, comparing, marking). No statement is proved here. -/
import Derived.Test.YtdlphgknplomkaaBase
import Derived.StillTailTactics
namespace Go.Proofs.Ytdlphgknplomkaa
open Go.RowKit

structure Entry where
  fTime : Int
  fWho : Int
  fNumber : Int
  fValue : Int

namespace Entry
def cells (r : Entry) : List Value := [.int .i64 r.fTime, .int .i64 r.fWho, .int .i64 r.fNumber, .int .i64 r.fValue]
theorem cells_length (r : Entry) : r.cells.length = 4 := rfl
def val (r : Entry) : Value := .agg #[.int .i64 r.fTime, .int .i64 r.fWho, .int .i64 r.fNumber, .int .i64 r.fValue]
def zero : Entry := ⟨0, 0, 0, 0⟩
end Entry
def flatEntry (l : List Entry) : List Value := l.flatMap Entry.cells
theorem flatEntry_length (l : List Entry) : (flatEntry l).length = l.length * 4 := flat_length _ _ Entry.cells_length l

/-- ints, so many at a time, as structs -/
theorem unflatEntry : ∀ (n : Nat) (zs : List Int), zs.length = n * 4 → ∃ l : List Entry, l.length = n ∧ flatEntry l = ints zs
  | 0, zs, h => by
    have : zs = [] := List.eq_nil_of_length_eq_zero (by omega)
    subst this; exact ⟨[], rfl, rfl⟩
  | n + 1, zs, h => by
    match zs, h with
    | z0 :: z1 :: z2 :: z3 :: zs, h =>
      obtain ⟨l, hl, e⟩ := unflatEntry n zs (by simp only [List.length_cons] at h; omega)
      exact ⟨⟨z0, z1, z2, z3⟩ :: l, by simp [hl], by rw [flatEntry, List.flatMap_cons, ← flatEntry, e]; rfl⟩
    | [], h => exact absurd h (by simp; try omega)
    | [_], h => exact absurd h (by simp; try omega)
    | [_, _], h => exact absurd h (by simp; try omega)
    | [_, _, _], h => exact absurd h (by simp; try omega)

/-- the k-th struct of a slice -/
theorem Rd.atEntry {w : World} {A : Option Addr} {l : List Entry} (h : Rd w A (flatEntry l)) {k : Nat} (hk : k < l.length) :
    ∃ b o, A = some ⟨b, o, none⟩ ∧ b < w.heap.size ∧ w.cell? ⟨b, o + k * 4, none⟩ = some (.int .i64 (l.getD k Entry.zero).fTime) ∧ w.cell? ⟨b, o + k * 4 + 1, none⟩ = some (.int .i64 (l.getD k Entry.zero).fWho) ∧ w.cell? ⟨b, o + k * 4 + 2, none⟩ = some (.int .i64 (l.getD k Entry.zero).fNumber) ∧ w.cell? ⟨b, o + k * 4 + 3, none⟩ = some (.int .i64 (l.getD k Entry.zero).fValue) := by
  obtain ⟨b, o, e, hlt, hc⟩ := h (by rw [flatEntry_length]; omega)
  refine ⟨b, o, e, hlt, ?_, ?_, ?_, ?_⟩
  · have := hc (k * 4 + 0) _ ((flat_get Entry.cells 4 Entry.cells_length Entry.zero l k 0 hk (by omega)).trans rfl); simpa [Nat.add_assoc] using this
  · have := hc (k * 4 + 1) _ ((flat_get Entry.cells 4 Entry.cells_length Entry.zero l k 1 hk (by omega)).trans rfl); simpa [Nat.add_assoc] using this
  · have := hc (k * 4 + 2) _ ((flat_get Entry.cells 4 Entry.cells_length Entry.zero l k 2 hk (by omega)).trans rfl); simpa [Nat.add_assoc] using this
  · have := hc (k * 4 + 3) _ ((flat_get Entry.cells 4 Entry.cells_length Entry.zero l k 3 hk (by omega)).trans rfl); simpa [Nat.add_assoc] using this

theorem info_Entry : (Try.prog.info? 30).map (fun i => (i.zero, i.size, i.bytes)) = some (some (.agg #[.int .i64 0, .int .i64 0, .int .i64 0, .int .i64 0]), 4, 32) := by kernel_rfl

set_option maxHeartbeats 400000 in
theorem toEntry_any (r : Entry) (w : World) :
    Calls Try.prog 8 #[r.val] w fun e w' => e = .returned r.val ∧ Below w.heap.size w w' := by
  obtain ⟨x0, x1, x2, x3⟩ := r
  unfold Entry.val
  go_enter Try.func8, Try.ntmps8
  go_wp2_with fail
  refine bodyPost_ret (v := .agg #[.int .i64 x0, .int .i64 x1, .int .i64 x2, .int .i64 x3]) (by simp [results, Try.results8, go_sem]) rfl ⟨rfl, ?_⟩
  exact allocB (allocB (allocB (Below.refl _ _) _) _) _

set_option maxHeartbeats 800000 in
theorem toEntryS_any (A : Option Addr) (n c : Nat) (l : List Entry) (w : World) (hn : l.length = n) (hm : n ≤ 1048576) (hA : Rd w A (flatEntry l)) :
    Calls Try.prog 7 #[.slice A n c] w fun e w' => e = .returned (.slice (some ⟨w.heap.size, 0, none⟩) n n) ∧ Own w' w.heap.size 30 4 (some ⟨w.heap.size, 0, none⟩) n (flatEntry l) ∧ Below w.heap.size w w' := by
  have HA := Lib.hid hA; clear hA
  have HN := Lib.hid hn; clear hn
  obtain ⟨i0, hi0, hz0, hz1, hz2⟩ := info_parts info_Entry
  go_enter Try.func7, Try.ntmps7
  go_wp2_with (at_make; refine wpList_make_full _ rfl _ _ _ rfl w.heap.size 30 i0 _ 4 Try.underlying26 hi0 hz0 hz1 .i64 .i64 n n n rfl rfl rfl rfl (by rw [hz2]; omega) (by unfold maxLen; omega) (Nat.le_refl _) ?_; intro w1 hown hgr)
  have hb0 : Below w.heap.size w w1 := (Below.refl _ _).grown hgr (Nat.le_refl _) (by simp)
  obtain ⟨A', c', e', ho0⟩ := own_of_row hown
  cases e'
  generalize hcs : (madeCells _ (n * 4)).toList = cs0 at ho0
  clear hown hgr hi0 hz0 hz1 hz2 hcs
  go_loopw [4] (fun i wr => ∃ k : Nat, k ≤ n ∧ i = .int .i64 k ∧ (∃ cs', Own wr w.heap.size 30 4 (some ⟨w.heap.size, 0, none⟩) n cs' ∧ cs'.take (k * 4) = flatEntry (l.take k)) ∧ Below w.heap.size w wr) (fun i _ => n - (intOf i).toNat)
  case atStart => exact ⟨0, by omega, rfl, ⟨cs0, ho0, by simp [flatEntry]⟩, hb0⟩
  case round =>
    clear ho0 hb0
    obtain ⟨k, hk, rfl, ⟨cs', hown, ht⟩, hb⟩ := hrel
    by_cases hlt : k < n
    · have HT := Lib.hid ht; clear ht
      have hpos : 0 < n := by omega
      obtain ⟨b, o, rfl, hbl, hc0, hc1, hc2, hc3⟩ := HA.out.atEntry (k := k) (by have := HN.out; omega)
      have hd0 := (hb.cell (p := ⟨b, o + k * 4, none⟩) hbl).trans hc0; clear hc0
      have hd1 := (hb.cell (p := ⟨b, o + k * 4 + 1, none⟩) hbl).trans hc1; clear hc1
      have hd2 := (hb.cell (p := ⟨b, o + k * 4 + 2, none⟩) hbl).trans hc2; clear hc2
      have hd3 := (hb.cell (p := ⟨b, o + k * 4 + 3, none⟩) hbl).trans hc3; clear hc3
      have hfl := Lib.hid (flat_take_succ Entry.cells Entry.zero l k (by have := HN.out; omega))
      generalize l.getD k Entry.zero = r at *
      go_wp2_with fail
      refine (toEntry_any r _).mono ?_
      rintro e w2 ⟨rfl, hb2⟩
      have hown2 := hown.below hb2
      have hbw2 : Below w.heap.size w w2 := hb.trans (hb2.mono hb.size)
      clear hown hb hb2 hd0 hd1 hd2 hd3
      have hf0 := hown2.frozen hpos (k * 4)
      have hf1 := hown2.frozen hpos (k * 4 + 1)
      have hf2 := hown2.frozen hpos (k * 4 + 2)
      have hf3 := hown2.frozen hpos (k * 4 + 3)
      obtain ⟨u0z, hu0⟩ := hown2.has hpos (k * 4) (by omega)
      obtain ⟨u1z, hu1⟩ := hown2.has hpos (k * 4 + 1) (by omega)
      obtain ⟨u2z, hu2⟩ := hown2.has hpos (k * 4 + 2) (by omega)
      obtain ⟨u3z, hu3⟩ := hown2.has hpos (k * 4 + 3) (by omega)
      have hst := (((hown2.set (k * 4) (.int .i64 r.fTime)).set (k * 4 + 1) (.int .i64 r.fWho)).set (k * 4 + 2) (.int .i64 r.fNumber)).set (k * 4 + 3) (.int .i64 r.fValue)
      have hbs := (((hbw2.setCell (p := ⟨w.heap.size, k * 4, none⟩) (Nat.le_refl _) (.int .i64 r.fTime)).setCell (p := ⟨w.heap.size, k * 4 + 1, none⟩) (Nat.le_refl _) (.int .i64 r.fWho)).setCell (p := ⟨w.heap.size, k * 4 + 2, none⟩) (Nat.le_refl _) (.int .i64 r.fNumber)).setCell (p := ⟨w.heap.size, k * 4 + 3, none⟩) (Nat.le_refl _) (.int .i64 r.fValue)
      have hl := Lib.hid hown2.1
      clear hown2 hbw2
      unfold Entry.val
      go_wp2_with fail
      go_roundw
      case rel =>
        refine ⟨k + 1, by omega, by go_num, ⟨_, hst, ?_⟩, hbs⟩
        have hl' := hl.out
        rw [show (k + 1) * 4 = k * 4 + 4 by omega, flatEntry, hfl.out, ← flatEntry, ← HT.out]
        simpa [Entry.cells] using (take_set_succ (.int .i64 r.fValue) (by first | omega | (simp; omega)) (take_set_succ (.int .i64 r.fNumber) (by first | omega | (simp; omega)) (take_set_succ (.int .i64 r.fWho) (by first | omega | (simp; omega)) (take_set_succ (.int .i64 r.fTime) (by first | omega | (simp; omega)) rfl))))
      case measure => simp [intOf]; omega
    · go_wp2_with fail
      go_ret
      have hkn : k = n := by omega
      subst hkn
      have hl := hown.1
      have hq := HN.out
      rw [List.take_of_length_le (by omega), List.take_of_length_le (by omega)] at ht
      subst ht
      exact ⟨rfl, hown, hb⟩

set_option maxHeartbeats 400000 in
theorem eqEntry_same (r : Entry) (w : World) :
    Calls Try.prog 24 #[r.val, r.val] w fun e w' => e = .returned (.bool true) ∧ Below w.heap.size w w' := by
  obtain ⟨x0, x1, x2, x3⟩ := r
  unfold Entry.val
  have h0 : (x0 != x0) = false := by simp
  have h1 : (x1 != x1) = false := by simp
  have h2 : (x2 != x2) = false := by simp
  have h3 : (x3 != x3) = false := by simp
  go_enter Try.func24, Try.ntmps24
  go_wp2_with fail
  go_ret
  exact ⟨rfl, allocB (allocB (Below.refl _ _) _) _⟩

set_option maxHeartbeats 400000 in
theorem eqEntryS_same (A B : Option Addr) (n c d : Nat) (l : List Entry) (w : World) (hn : l.length = n) (hm : n ≤ 1048576) (hA : Rd w A (flatEntry l)) (hB : Rd w B (flatEntry l)) :
    Calls Try.prog 10 #[.slice A n c, .slice B n d] w fun e w' => e = .returned (.bool true) ∧ Below w.heap.size w w' := by
  have HA := Lib.hid hA; clear hA
  have HB := Lib.hid hB; clear hB
  have HN := Lib.hid hn; clear hn
  have hne : ((n : Int) != (n : Int)) = false := by simp
  go_enter Try.func10, Try.ntmps10
  go_wp2_with fail
  go_loopw [5] (fun i wr => ∃ k : Nat, k ≤ n ∧ i = .int .i64 k ∧ Below w.heap.size w wr) (fun i _ => n - (intOf i).toNat)
  case atStart => exact ⟨0, by omega, rfl, Below.refl _ _⟩
  case round =>
    obtain ⟨k, hk, rfl, hb⟩ := hrel
    by_cases hlt : k < n
    · obtain ⟨b, o, rfl, hbl, hc0, hc1, hc2, hc3⟩ := HA.out.atEntry (k := k) (by have := HN.out; omega)
      obtain ⟨b2, o2, rfl, hbl2, he0, he1, he2, he3⟩ := HB.out.atEntry (k := k) (by have := HN.out; omega)
      have hd0 := (hb.cell (p := ⟨b, o + k * 4, none⟩) hbl).trans hc0; clear hc0
      have hd1 := (hb.cell (p := ⟨b, o + k * 4 + 1, none⟩) hbl).trans hc1; clear hc1
      have hd2 := (hb.cell (p := ⟨b, o + k * 4 + 2, none⟩) hbl).trans hc2; clear hc2
      have hd3 := (hb.cell (p := ⟨b, o + k * 4 + 3, none⟩) hbl).trans hc3; clear hc3
      have hg0 := (hb.cell (p := ⟨b2, o2 + k * 4, none⟩) hbl2).trans he0; clear he0
      have hg1 := (hb.cell (p := ⟨b2, o2 + k * 4 + 1, none⟩) hbl2).trans he1; clear he1
      have hg2 := (hb.cell (p := ⟨b2, o2 + k * 4 + 2, none⟩) hbl2).trans he2; clear he2
      have hg3 := (hb.cell (p := ⟨b2, o2 + k * 4 + 3, none⟩) hbl2).trans he3; clear he3
      generalize l.getD k Entry.zero = r at *
      go_wp2_with fail
      go_still_tail 8, (by kernel_rfl)
      change wpList _ _ _ _ _ wr.drew
      clear hd0 hg0 hd1 hg1 hd2 hg2 hd3 hg3
      have hb' := hb.drew
      clear hb
      generalize wr.drew = w2 at *
      go_wp2_with fail
      refine (eqEntry_same r _).mono ?_
      rintro e w3 ⟨rfl, hb3⟩
      have hb4 := hb'.trans (hb3.mono hb'.size)
      clear hb' hb3
      go_wp2_with fail
      go_roundw
      case rel => exact ⟨k + 1, by omega, by go_num, hb4⟩
      case measure => simp [intOf]; omega
    · go_wp2_with fail
      go_ret
      exact ⟨rfl, hb⟩

theorem szEntryS_ok (A : Option Addr) (n c : Nat) (m : Int) (w : World) (h0 : m ≤ 1048576) (hm : n ≤ m) :
    Calls Try.prog 5 #[.slice A n c, .int .i64 m] w fun e w' => e = .returned (.int .i64 (m - n)) ∧ w = w' := by
  go_enter Try.func5, Try.ntmps5
  go_wp2_with fail
  go_ret
  exact ⟨rfl, rfl⟩
theorem szEntryS_no (A : Option Addr) (n c : Nat) (m : Int) (w : World) (h0 : 0 ≤ m) (hn : n ≤ 9223372036854775807) (hm : m < n) :
    Calls Try.prog 5 #[.slice A n c, .int .i64 m] w fun e w' => e = .returned (.int .i64 (-1)) ∧ w = w' := by
  go_enter Try.func5, Try.ntmps5
  go_wp2_with fail
  go_ret
  exact ⟨rfl, rfl⟩

set_option maxHeartbeats 800000 in
theorem markEntryS_own (base : Nat) (A : Option Addr) (n c : Nat) (m : Int) (cs : List Value) (w : World) (hm : n ≤ 1048576) (h0 : 0 ≤ m) (h1 : m ≤ 10000000) (hA : Own w base 30 4 A n cs) :
    Calls Try.prog 11 #[.slice A n c, .int .i64 m] w fun e w' => e = .returned (.int .i64 (m + (n * 4 : Nat))) ∧ Own w' base 30 4 A n (ints (marks m (n * 4))) ∧ Turned A n w w' := by
  have HA := Lib.hid hA; clear hA
  go_enter Try.func11, Try.ntmps11
  go_wp2_with fail
  go_loopw [1, 5] (fun q i wr => ∃ k : Nat, k ≤ n ∧ i = .int .i64 k ∧ q = .int .i64 (m + k * 4) ∧ (∃ cs', Own wr base 30 4 A n cs' ∧ cs'.take (k * 4) = ints (marks m (k * 4))) ∧ Turned A n w wr) (fun _ i _ => n - (intOf i).toNat)
  case atStart => exact ⟨0, by omega, rfl, by go_num, ⟨cs, HA.out, by simp [ints, marks]⟩, Turned.refl _ _ _⟩
  case round =>
    obtain ⟨k, hk, rfl, rfl, ⟨cs', hown, ht⟩, honly⟩ := hrel
    by_cases hlt : k < n
    · have HT := Lib.hid ht; clear ht
      have hpos : 0 < n := by omega
      obtain ⟨g, rfl, _, _⟩ := hown.form hpos
      have hf0 := hown.frozen hpos (k * 4)
      have hf1 := hown.frozen hpos (k * 4 + 1)
      have hf2 := hown.frozen hpos (k * 4 + 2)
      have hf3 := hown.frozen hpos (k * 4 + 3)
      obtain ⟨u0z, hu0⟩ := hown.has hpos (k * 4) (by omega)
      obtain ⟨u1z, hu1⟩ := hown.has hpos (k * 4 + 1) (by omega)
      obtain ⟨u2z, hu2⟩ := hown.has hpos (k * 4 + 2) (by omega)
      obtain ⟨u3z, hu3⟩ := hown.has hpos (k * 4 + 3) (by omega)
      have hst := (((hown.set (k * 4) (.int .i64 (m + k * 4))).set (k * 4 + 1) (.int .i64 (m + k * 4 + 1))).set (k * 4 + 2) (.int .i64 (m + k * 4 + 1 + 1))).set (k * 4 + 3) (.int .i64 (m + k * 4 + 1 + 1 + 1))
      have ho' := (((honly.setCell hpos (k * 4) (.int .i64 (m + k * 4))).setCell hpos (k * 4 + 1) (.int .i64 (m + k * 4 + 1))).setCell hpos (k * 4 + 2) (.int .i64 (m + k * 4 + 1 + 1))).setCell hpos (k * 4 + 3) (.int .i64 (m + k * 4 + 1 + 1 + 1))
      have hl := Lib.hid hown.1
      clear hown honly
      go_wp2_with fail
      go_roundw
      case rel =>
        refine ⟨k + 1, by omega, by go_num, by go_num, ⟨_, hst, ?_⟩, ho'⟩
        have hl' := hl.out
        rw [show (k + 1) * 4 = k * 4 + 4 by omega]
        exact (marked_at _ (k * 4 + 3) _ _ (by first | omega | (simp; omega)) (by omega) (marked_at _ (k * 4 + 2) _ _ (by first | omega | (simp; omega)) (by omega) (marked_at _ (k * 4 + 1) _ _ (by first | omega | (simp; omega)) (by omega) (marked_at _ (k * 4) _ _ (by first | omega | (simp; omega)) (by omega) HT.out))))
      case measure => simp [intOf]; omega
    · go_wp2_with fail
      go_ret
      have hkn : k = n := by omega
      subst hkn
      have hl := hown.1
      rw [List.take_of_length_le (by omega)] at ht
      subst ht
      exact ⟨ret_int (by omega), hown, honly⟩

set_option maxHeartbeats 400000 in
theorem heldEntryS_yes (A : Option Addr) (n c : Nat) (m : Int) (w : World) (hm : n ≤ 1048576) (h0 : 0 ≤ m) (h1 : m ≤ 10000000) (hA : Rd w A (ints (marks m (n * 4)))) :
    Calls Try.prog 12 #[.slice A n c, .int .i64 m] w fun e w' => e = .returned (.int .i64 (m + (n * 4 : Nat))) ∧ w = w' := by
  have HA := Lib.hid hA; clear hA
  go_enter Try.func12, Try.ntmps12
  go_wp2_with fail
  go_loop [1, 5] (fun q i => ∃ k : Nat, k ≤ n ∧ i = .int .i64 k ∧ q = .int .i64 (m + k * 4)) (fun _ i => n - (intOf i).toNat)
  case atStart => exact ⟨0, by omega, rfl, by go_num⟩
  case round =>
    obtain ⟨k, hk, rfl, rfl⟩ := hrel
    by_cases hlt : k < n
    · obtain ⟨b, o, rfl, _, hc⟩ := HA.out.ints (by rw [marks_length]; omega)
      have hc0 := hc (k * 4) (by rw [marks_length]; omega)
      rw [marks_getD m _ _ (by omega), show m + ((k * 4 : Nat) : Int) = m + k * 4 by omega] at hc0
      have hx0 : ((m + (k : Int) * 4) != (m + (k : Int) * 4)) = false := by simp
      have hc1 := hc (k * 4 + 1) (by rw [marks_length]; omega)
      rw [marks_getD m _ _ (by omega), show m + ((k * 4 + 1 : Nat) : Int) = m + k * 4 + 1 by omega, ← Nat.add_assoc] at hc1
      have hx1 : ((m + (k : Int) * 4 + 1) != (m + (k : Int) * 4 + 1)) = false := by simp
      have hc2 := hc (k * 4 + 2) (by rw [marks_length]; omega)
      rw [marks_getD m _ _ (by omega), show m + ((k * 4 + 2 : Nat) : Int) = m + k * 4 + 1 + 1 by omega, ← Nat.add_assoc] at hc2
      have hx2 : ((m + (k : Int) * 4 + 1 + 1) != (m + (k : Int) * 4 + 1 + 1)) = false := by simp
      have hc3 := hc (k * 4 + 3) (by rw [marks_length]; omega)
      rw [marks_getD m _ _ (by omega), show m + ((k * 4 + 3 : Nat) : Int) = m + k * 4 + 1 + 1 + 1 by omega, ← Nat.add_assoc] at hc3
      have hx3 : ((m + (k : Int) * 4 + 1 + 1 + 1) != (m + (k : Int) * 4 + 1 + 1 + 1)) = false := by simp
      clear hc
      go_wp2_with fail
      go_round
      case rel => exact ⟨k + 1, by omega, by go_num, by go_num⟩
      case measure => simp [intOf]; omega
    · go_wp2_with fail
      go_ret
      have hkn : k = n := by omega
      subst hkn
      exact ⟨ret_int (by omega), rfl⟩
end Go.Proofs.Ytdlphgknplomkaa
