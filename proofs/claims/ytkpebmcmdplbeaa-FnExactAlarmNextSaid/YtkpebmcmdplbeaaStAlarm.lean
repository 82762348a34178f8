/- The contracts of the laws' own small functions on the struct Alarm and on slices of it (copying, comparing, marking). No statement is proved here. -/
import Derived.Test.YtkpebmcmdplbeaaBase
import Derived.StillTailTactics
namespace Go.Proofs.Ytkpebmcmdplbeaa
open Go.RowKit

structure Alarm where
  fRank : Int
  fState : Int
  fSince : Int

namespace Alarm
def cells (r : Alarm) : List Value := [.int .i64 r.fRank, .int .i64 r.fState, .int .i64 r.fSince]
theorem cells_length (r : Alarm) : r.cells.length = 3 := rfl
def val (r : Alarm) : Value := .agg #[.int .i64 r.fRank, .int .i64 r.fState, .int .i64 r.fSince]
def zero : Alarm := ⟨0, 0, 0⟩
end Alarm
def flatAlarm (l : List Alarm) : List Value := l.flatMap Alarm.cells
theorem flatAlarm_length (l : List Alarm) : (flatAlarm l).length = l.length * 3 := flat_length _ _ Alarm.cells_length l

/-- ints, so many at a time, as structs -/
theorem unflatAlarm : ∀ (n : Nat) (zs : List Int), zs.length = n * 3 → ∃ l : List Alarm, l.length = n ∧ flatAlarm l = ints zs
  | 0, zs, h => by
    have : zs = [] := List.eq_nil_of_length_eq_zero (by omega)
    subst this; exact ⟨[], rfl, rfl⟩
  | n + 1, zs, h => by
    match zs, h with
    | z0 :: z1 :: z2 :: zs, h =>
      obtain ⟨l, hl, e⟩ := unflatAlarm n zs (by simp only [List.length_cons] at h; omega)
      exact ⟨⟨z0, z1, z2⟩ :: l, by simp [hl], by rw [flatAlarm, List.flatMap_cons, ← flatAlarm, e]; rfl⟩
    | [], h => exact absurd h (by simp; try omega)
    | [_], h => exact absurd h (by simp; try omega)
    | [_, _], h => exact absurd h (by simp; try omega)

/-- the k-th struct of a slice -/
theorem Rd.atAlarm {w : World} {A : Option Addr} {l : List Alarm} (h : Rd w A (flatAlarm l)) {k : Nat} (hk : k < l.length) :
    ∃ b o, A = some ⟨b, o, none⟩ ∧ b < w.heap.size ∧ w.cell? ⟨b, o + k * 3, none⟩ = some (.int .i64 (l.getD k Alarm.zero).fRank) ∧ w.cell? ⟨b, o + k * 3 + 1, none⟩ = some (.int .i64 (l.getD k Alarm.zero).fState) ∧ w.cell? ⟨b, o + k * 3 + 2, none⟩ = some (.int .i64 (l.getD k Alarm.zero).fSince) := by
  obtain ⟨b, o, e, hlt, hc⟩ := h (by rw [flatAlarm_length]; omega)
  refine ⟨b, o, e, hlt, ?_, ?_, ?_⟩
  · have := hc (k * 3 + 0) _ ((flat_get Alarm.cells 3 Alarm.cells_length Alarm.zero l k 0 hk (by omega)).trans rfl); simpa [Nat.add_assoc] using this
  · have := hc (k * 3 + 1) _ ((flat_get Alarm.cells 3 Alarm.cells_length Alarm.zero l k 1 hk (by omega)).trans rfl); simpa [Nat.add_assoc] using this
  · have := hc (k * 3 + 2) _ ((flat_get Alarm.cells 3 Alarm.cells_length Alarm.zero l k 2 hk (by omega)).trans rfl); simpa [Nat.add_assoc] using this

theorem info_Alarm : (Try.prog.info? 31).map (fun i => (i.zero, i.size, i.bytes)) = some (some (.agg #[.int .i64 0, .int .i64 0, .int .i64 0]), 3, 24) := by kernel_rfl

set_option maxHeartbeats 400000 in
theorem toAlarm_any (r : Alarm) (w : World) :
    Calls Try.prog 10 #[r.val] w fun e w' => e = .returned r.val ∧ Below w.heap.size w w' := by
  obtain ⟨x0, x1, x2⟩ := r
  unfold Alarm.val
  go_enter Try.func10, Try.ntmps10
  go_wp2_with fail
  refine bodyPost_ret (v := .agg #[.int .i64 x0, .int .i64 x1, .int .i64 x2]) (by simp [results, Try.results10, go_sem]) rfl ⟨rfl, ?_⟩
  exact allocB (allocB (allocB (Below.refl _ _) _) _) _

set_option maxHeartbeats 800000 in
theorem toAlarmS_any (A : Option Addr) (n c : Nat) (l : List Alarm) (w : World) (hn : l.length = n) (hm : n ≤ 1048576) (hA : Rd w A (flatAlarm l)) :
    Calls Try.prog 6 #[.slice A n c] w fun e w' => e = .returned (.slice (some ⟨w.heap.size, 0, none⟩) n n) ∧ Own w' w.heap.size 31 3 (some ⟨w.heap.size, 0, none⟩) n (flatAlarm l) ∧ Below w.heap.size w w' := by
  have HA := Lib.hid hA; clear hA
  have HN := Lib.hid hn; clear hn
  obtain ⟨i0, hi0, hz0, hz1, hz2⟩ := info_parts info_Alarm
  go_enter Try.func6, Try.ntmps6
  go_wp2_with (at_make; refine wpList_make_full _ rfl _ _ _ rfl w.heap.size 31 i0 _ 3 Try.underlying25 hi0 hz0 hz1 .i64 .i64 n n n rfl rfl rfl rfl (by rw [hz2]; omega) (by unfold maxLen; omega) (Nat.le_refl _) ?_; intro w1 hown hgr)
  have hb0 : Below w.heap.size w w1 := (Below.refl _ _).grown hgr (Nat.le_refl _) (by simp)
  obtain ⟨A', c', e', ho0⟩ := own_of_row hown
  cases e'
  generalize hcs : (madeCells _ (n * 3)).toList = cs0 at ho0
  clear hown hgr hi0 hz0 hz1 hz2 hcs
  go_loopw [4] (fun i wr => ∃ k : Nat, k ≤ n ∧ i = .int .i64 k ∧ (∃ cs', Own wr w.heap.size 31 3 (some ⟨w.heap.size, 0, none⟩) n cs' ∧ cs'.take (k * 3) = flatAlarm (l.take k)) ∧ Below w.heap.size w wr) (fun i _ => n - (intOf i).toNat)
  case atStart => exact ⟨0, by omega, rfl, ⟨cs0, ho0, by simp [flatAlarm]⟩, hb0⟩
  case round =>
    clear ho0 hb0
    obtain ⟨k, hk, rfl, ⟨cs', hown, ht⟩, hb⟩ := hrel
    by_cases hlt : k < n
    · have HT := Lib.hid ht; clear ht
      have hpos : 0 < n := by omega
      obtain ⟨b, o, rfl, hbl, hc0, hc1, hc2⟩ := HA.out.atAlarm (k := k) (by have := HN.out; omega)
      have hd0 := (hb.cell (p := ⟨b, o + k * 3, none⟩) hbl).trans hc0; clear hc0
      have hd1 := (hb.cell (p := ⟨b, o + k * 3 + 1, none⟩) hbl).trans hc1; clear hc1
      have hd2 := (hb.cell (p := ⟨b, o + k * 3 + 2, none⟩) hbl).trans hc2; clear hc2
      have hfl := Lib.hid (flat_take_succ Alarm.cells Alarm.zero l k (by have := HN.out; omega))
      generalize l.getD k Alarm.zero = r at *
      go_wp2_with fail
      refine (toAlarm_any r _).mono ?_
      rintro e w2 ⟨rfl, hb2⟩
      have hown2 := hown.below hb2
      have hbw2 : Below w.heap.size w w2 := hb.trans (hb2.mono hb.size)
      clear hown hb hb2 hd0 hd1 hd2
      have hf0 := hown2.frozen hpos (k * 3)
      have hf1 := hown2.frozen hpos (k * 3 + 1)
      have hf2 := hown2.frozen hpos (k * 3 + 2)
      obtain ⟨u0z, hu0⟩ := hown2.has hpos (k * 3) (by omega)
      obtain ⟨u1z, hu1⟩ := hown2.has hpos (k * 3 + 1) (by omega)
      obtain ⟨u2z, hu2⟩ := hown2.has hpos (k * 3 + 2) (by omega)
      have hst := ((hown2.set (k * 3) (.int .i64 r.fRank)).set (k * 3 + 1) (.int .i64 r.fState)).set (k * 3 + 2) (.int .i64 r.fSince)
      have hbs := ((hbw2.setCell (p := ⟨w.heap.size, k * 3, none⟩) (Nat.le_refl _) (.int .i64 r.fRank)).setCell (p := ⟨w.heap.size, k * 3 + 1, none⟩) (Nat.le_refl _) (.int .i64 r.fState)).setCell (p := ⟨w.heap.size, k * 3 + 2, none⟩) (Nat.le_refl _) (.int .i64 r.fSince)
      have hl := Lib.hid hown2.1
      clear hown2 hbw2
      unfold Alarm.val
      go_wp2_with fail
      go_roundw
      case rel =>
        refine ⟨k + 1, by omega, by go_num, ⟨_, hst, ?_⟩, hbs⟩
        have hl' := hl.out
        rw [show (k + 1) * 3 = k * 3 + 3 by omega, flatAlarm, hfl.out, ← flatAlarm, ← HT.out]
        simpa [Alarm.cells] using (take_set_succ (.int .i64 r.fSince) (by first | omega | (simp; omega)) (take_set_succ (.int .i64 r.fState) (by first | omega | (simp; omega)) (take_set_succ (.int .i64 r.fRank) (by first | omega | (simp; omega)) rfl)))
      case measure => simp [intOf]; omega
    · go_wp2_with fail
      go_ret
      have hkn : k = n := by omega
      subst hkn
      have hl := hown.1
      have hq := HN.out
      rw [List.take_of_length_le (by omega), List.take_of_length_le (by omega)] at ht
      subst ht
      exact ⟨rfl, hown, hb⟩

set_option maxHeartbeats 400000 in
theorem eqAlarm_same (r : Alarm) (w : World) :
    Calls Try.prog 12 #[r.val, r.val] w fun e w' => e = .returned (.bool true) ∧ Below w.heap.size w w' := by
  obtain ⟨x0, x1, x2⟩ := r
  unfold Alarm.val
  have h0 : (x0 != x0) = false := by simp
  have h1 : (x1 != x1) = false := by simp
  have h2 : (x2 != x2) = false := by simp
  go_enter Try.func12, Try.ntmps12
  go_wp2_with fail
  go_ret
  exact ⟨rfl, allocB (allocB (Below.refl _ _) _) _⟩

set_option maxHeartbeats 400000 in
theorem eqAlarmS_same (A B : Option Addr) (n c d : Nat) (l : List Alarm) (w : World) (hn : l.length = n) (hm : n ≤ 1048576) (hA : Rd w A (flatAlarm l)) (hB : Rd w B (flatAlarm l)) :
    Calls Try.prog 8 #[.slice A n c, .slice B n d] w fun e w' => e = .returned (.bool true) ∧ Below w.heap.size w w' := by
  have HA := Lib.hid hA; clear hA
  have HB := Lib.hid hB; clear hB
  have HN := Lib.hid hn; clear hn
  have hne : ((n : Int) != (n : Int)) = false := by simp
  go_enter Try.func8, Try.ntmps8
  go_wp2_with fail
  go_loopw [5] (fun i wr => ∃ k : Nat, k ≤ n ∧ i = .int .i64 k ∧ Below w.heap.size w wr) (fun i _ => n - (intOf i).toNat)
  case atStart => exact ⟨0, by omega, rfl, Below.refl _ _⟩
  case round =>
    obtain ⟨k, hk, rfl, hb⟩ := hrel
    by_cases hlt : k < n
    · obtain ⟨b, o, rfl, hbl, hc0, hc1, hc2⟩ := HA.out.atAlarm (k := k) (by have := HN.out; omega)
      obtain ⟨b2, o2, rfl, hbl2, he0, he1, he2⟩ := HB.out.atAlarm (k := k) (by have := HN.out; omega)
      have hd0 := (hb.cell (p := ⟨b, o + k * 3, none⟩) hbl).trans hc0; clear hc0
      have hd1 := (hb.cell (p := ⟨b, o + k * 3 + 1, none⟩) hbl).trans hc1; clear hc1
      have hd2 := (hb.cell (p := ⟨b, o + k * 3 + 2, none⟩) hbl).trans hc2; clear hc2
      have hg0 := (hb.cell (p := ⟨b2, o2 + k * 3, none⟩) hbl2).trans he0; clear he0
      have hg1 := (hb.cell (p := ⟨b2, o2 + k * 3 + 1, none⟩) hbl2).trans he1; clear he1
      have hg2 := (hb.cell (p := ⟨b2, o2 + k * 3 + 2, none⟩) hbl2).trans he2; clear he2
      generalize l.getD k Alarm.zero = r at *
      go_wp2_with fail
      go_still_tail 8, (by kernel_rfl)
      change wpList _ _ _ _ _ wr.drew
      clear hd0 hg0 hd1 hg1 hd2 hg2
      have hb' := hb.drew
      clear hb
      generalize wr.drew = w2 at *
      go_wp2_with fail
      refine (eqAlarm_same r _).mono ?_
      rintro e w3 ⟨rfl, hb3⟩
      have hb4 := hb'.trans (hb3.mono hb'.size)
      clear hb' hb3
      go_wp2_with fail
      go_roundw
      case rel => exact ⟨k + 1, by omega, by go_num, hb4⟩
      case measure => simp [intOf]; omega
    · go_wp2_with fail
      go_ret
      exact ⟨rfl, hb⟩

theorem szAlarmS_ok (A : Option Addr) (n c : Nat) (m : Int) (w : World) (h0 : m ≤ 1048576) (hm : n ≤ m) :
    Calls Try.prog 4 #[.slice A n c, .int .i64 m] w fun e w' => e = .returned (.int .i64 (m - n)) ∧ w = w' := by
  go_enter Try.func4, Try.ntmps4
  go_wp2_with fail
  go_ret
  exact ⟨rfl, rfl⟩
theorem szAlarmS_no (A : Option Addr) (n c : Nat) (m : Int) (w : World) (h0 : 0 ≤ m) (hn : n ≤ 9223372036854775807) (hm : m < n) :
    Calls Try.prog 4 #[.slice A n c, .int .i64 m] w fun e w' => e = .returned (.int .i64 (-1)) ∧ w = w' := by
  go_enter Try.func4, Try.ntmps4
  go_wp2_with fail
  go_ret
  exact ⟨rfl, rfl⟩


end Go.Proofs.Ytkpebmcmdplbeaa
