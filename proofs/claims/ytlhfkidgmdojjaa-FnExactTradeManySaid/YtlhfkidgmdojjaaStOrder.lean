/- The contracts of the laws' own small functions on the struct Order and on slices of it (copying, comparing, marking). No statement is proved here. -/
import Derived.Test.YtlhfkidgmdojjaaBase
import Derived.StillTailTactics
namespace Go.Proofs.Ytlhfkidgmdojjaa
open Go.RowKit

structure Order where
  fPrice : Int
  fMany : Int

namespace Order
def cells (r : Order) : List Value := [.int .i64 r.fPrice, .int .i64 r.fMany]
theorem cells_length (r : Order) : r.cells.length = 2 := rfl
def val (r : Order) : Value := .agg #[.int .i64 r.fPrice, .int .i64 r.fMany]
def zero : Order := ⟨0, 0⟩
end Order
def flatOrder (l : List Order) : List Value := l.flatMap Order.cells
theorem flatOrder_length (l : List Order) : (flatOrder l).length = l.length * 2 := flat_length _ _ Order.cells_length l

/-- ints, so many at a time, as structs -/
theorem unflatOrder : ∀ (n : Nat) (zs : List Int), zs.length = n * 2 → ∃ l : List Order, l.length = n ∧ flatOrder l = ints zs
  | 0, zs, h => by
    have : zs = [] := List.eq_nil_of_length_eq_zero (by omega)
    subst this; exact ⟨[], rfl, rfl⟩
  | n + 1, zs, h => by
    match zs, h with
    | z0 :: z1 :: zs, h =>
      obtain ⟨l, hl, e⟩ := unflatOrder n zs (by simp only [List.length_cons] at h; omega)
      exact ⟨⟨z0, z1⟩ :: l, by simp [hl], by rw [flatOrder, List.flatMap_cons, ← flatOrder, e]; rfl⟩
    | [], h => exact absurd h (by simp; try omega)
    | [_], h => exact absurd h (by simp; try omega)

/-- the k-th struct of a slice -/
theorem Rd.atOrder {w : World} {A : Option Addr} {l : List Order} (h : Rd w A (flatOrder l)) {k : Nat} (hk : k < l.length) :
    ∃ b o, A = some ⟨b, o, none⟩ ∧ b < w.heap.size ∧ w.cell? ⟨b, o + k * 2, none⟩ = some (.int .i64 (l.getD k Order.zero).fPrice) ∧ w.cell? ⟨b, o + k * 2 + 1, none⟩ = some (.int .i64 (l.getD k Order.zero).fMany) := by
  obtain ⟨b, o, e, hlt, hc⟩ := h (by rw [flatOrder_length]; omega)
  refine ⟨b, o, e, hlt, ?_, ?_⟩
  · have := hc (k * 2 + 0) _ ((flat_get Order.cells 2 Order.cells_length Order.zero l k 0 hk (by omega)).trans rfl); simpa [Nat.add_assoc] using this
  · have := hc (k * 2 + 1) _ ((flat_get Order.cells 2 Order.cells_length Order.zero l k 1 hk (by omega)).trans rfl); simpa [Nat.add_assoc] using this

theorem info_Order : (Try.prog.info? 36).map (fun i => (i.zero, i.size, i.bytes)) = some (some (.agg #[.int .i64 0, .int .i64 0]), 2, 16) := by kernel_rfl

set_option maxHeartbeats 400000 in
theorem toOrder_any (r : Order) (w : World) :
    Calls Try.prog 22 #[r.val] w fun e w' => e = .returned r.val ∧ Below w.heap.size w w' := by
  obtain ⟨x0, x1⟩ := r
  unfold Order.val
  go_enter Try.func22, Try.ntmps22
  go_wp2_with fail
  refine bodyPost_ret (v := .agg #[.int .i64 x0, .int .i64 x1]) (by simp [results, Try.results22, go_sem]) rfl ⟨rfl, ?_⟩
  exact allocB (allocB (allocB (Below.refl _ _) _) _) _

set_option maxHeartbeats 800000 in
theorem toOrderS_any (A : Option Addr) (n c : Nat) (l : List Order) (w : World) (hn : l.length = n) (hm : n ≤ 1048576) (hA : Rd w A (flatOrder l)) :
    Calls Try.prog 9 #[.slice A n c] w fun e w' => e = .returned (.slice (some ⟨w.heap.size, 0, none⟩) n n) ∧ Own w' w.heap.size 36 2 (some ⟨w.heap.size, 0, none⟩) n (flatOrder l) ∧ Below w.heap.size w w' := by
  have HA := Lib.hid hA; clear hA
  have HN := Lib.hid hn; clear hn
  obtain ⟨i0, hi0, hz0, hz1, hz2⟩ := info_parts info_Order
  go_enter Try.func9, Try.ntmps9
  go_wp2_with (at_make; refine wpList_make_full _ rfl _ _ _ rfl w.heap.size 36 i0 _ 2 Try.underlying25 hi0 hz0 hz1 .i64 .i64 n n n rfl rfl rfl rfl (by rw [hz2]; omega) (by unfold maxLen; omega) (Nat.le_refl _) ?_; intro w1 hown hgr)
  have hb0 : Below w.heap.size w w1 := (Below.refl _ _).grown hgr (Nat.le_refl _) (by simp)
  obtain ⟨A', c', e', ho0⟩ := own_of_row hown
  cases e'
  generalize hcs : (madeCells _ (n * 2)).toList = cs0 at ho0
  clear hown hgr hi0 hz0 hz1 hz2 hcs
  go_loopw [4] (fun i wr => ∃ k : Nat, k ≤ n ∧ i = .int .i64 k ∧ (∃ cs', Own wr w.heap.size 36 2 (some ⟨w.heap.size, 0, none⟩) n cs' ∧ cs'.take (k * 2) = flatOrder (l.take k)) ∧ Below w.heap.size w wr) (fun i _ => n - (intOf i).toNat)
  case atStart => exact ⟨0, by omega, rfl, ⟨cs0, ho0, by simp [flatOrder]⟩, hb0⟩
  case round =>
    clear ho0 hb0
    obtain ⟨k, hk, rfl, ⟨cs', hown, ht⟩, hb⟩ := hrel
    by_cases hlt : k < n
    · have HT := Lib.hid ht; clear ht
      have hpos : 0 < n := by omega
      obtain ⟨b, o, rfl, hbl, hc0, hc1⟩ := HA.out.atOrder (k := k) (by have := HN.out; omega)
      have hd0 := (hb.cell (p := ⟨b, o + k * 2, none⟩) hbl).trans hc0; clear hc0
      have hd1 := (hb.cell (p := ⟨b, o + k * 2 + 1, none⟩) hbl).trans hc1; clear hc1
      have hfl := Lib.hid (flat_take_succ Order.cells Order.zero l k (by have := HN.out; omega))
      generalize l.getD k Order.zero = r at *
      go_wp2_with fail
      refine (toOrder_any r _).mono ?_
      rintro e w2 ⟨rfl, hb2⟩
      have hown2 := hown.below hb2
      have hbw2 : Below w.heap.size w w2 := hb.trans (hb2.mono hb.size)
      clear hown hb hb2 hd0 hd1
      have hf0 := hown2.frozen hpos (k * 2)
      have hf1 := hown2.frozen hpos (k * 2 + 1)
      obtain ⟨u0z, hu0⟩ := hown2.has hpos (k * 2) (by omega)
      obtain ⟨u1z, hu1⟩ := hown2.has hpos (k * 2 + 1) (by omega)
      have hst := (hown2.set (k * 2) (.int .i64 r.fPrice)).set (k * 2 + 1) (.int .i64 r.fMany)
      have hbs := (hbw2.setCell (p := ⟨w.heap.size, k * 2, none⟩) (Nat.le_refl _) (.int .i64 r.fPrice)).setCell (p := ⟨w.heap.size, k * 2 + 1, none⟩) (Nat.le_refl _) (.int .i64 r.fMany)
      have hl := Lib.hid hown2.1
      clear hown2 hbw2
      unfold Order.val
      go_wp2_with fail
      go_roundw
      case rel =>
        refine ⟨k + 1, by omega, by go_num, ⟨_, hst, ?_⟩, hbs⟩
        have hl' := hl.out
        rw [show (k + 1) * 2 = k * 2 + 2 by omega, flatOrder, hfl.out, ← flatOrder, ← HT.out]
        simpa [Order.cells] using (take_set_succ (.int .i64 r.fMany) (by first | omega | (simp; omega)) (take_set_succ (.int .i64 r.fPrice) (by first | omega | (simp; omega)) rfl))
      case measure => simp [intOf]; omega
    · go_wp2_with fail
      go_ret
      have hkn : k = n := by omega
      subst hkn
      have hl := hown.1
      have hq := HN.out
      rw [List.take_of_length_le (by omega), List.take_of_length_le (by omega)] at ht
      subst ht
      exact ⟨rfl, hown, hb⟩

set_option maxHeartbeats 400000 in
theorem eqOrder_same (r : Order) (w : World) :
    Calls Try.prog 23 #[r.val, r.val] w fun e w' => e = .returned (.bool true) ∧ Below w.heap.size w w' := by
  obtain ⟨x0, x1⟩ := r
  unfold Order.val
  have h0 : (x0 != x0) = false := by simp
  have h1 : (x1 != x1) = false := by simp
  go_enter Try.func23, Try.ntmps23
  go_wp2_with fail
  go_ret
  exact ⟨rfl, allocB (allocB (Below.refl _ _) _) _⟩

set_option maxHeartbeats 400000 in
theorem eqOrderS_same (A B : Option Addr) (n c d : Nat) (l : List Order) (w : World) (hn : l.length = n) (hm : n ≤ 1048576) (hA : Rd w A (flatOrder l)) (hB : Rd w B (flatOrder l)) :
    Calls Try.prog 11 #[.slice A n c, .slice B n d] w fun e w' => e = .returned (.bool true) ∧ Below w.heap.size w w' := by
  have HA := Lib.hid hA; clear hA
  have HB := Lib.hid hB; clear hB
  have HN := Lib.hid hn; clear hn
  have hne : ((n : Int) != (n : Int)) = false := by simp
  go_enter Try.func11, Try.ntmps11
  go_wp2_with fail
  go_loopw [5] (fun i wr => ∃ k : Nat, k ≤ n ∧ i = .int .i64 k ∧ Below w.heap.size w wr) (fun i _ => n - (intOf i).toNat)
  case atStart => exact ⟨0, by omega, rfl, Below.refl _ _⟩
  case round =>
    obtain ⟨k, hk, rfl, hb⟩ := hrel
    by_cases hlt : k < n
    · obtain ⟨b, o, rfl, hbl, hc0, hc1⟩ := HA.out.atOrder (k := k) (by have := HN.out; omega)
      obtain ⟨b2, o2, rfl, hbl2, he0, he1⟩ := HB.out.atOrder (k := k) (by have := HN.out; omega)
      have hd0 := (hb.cell (p := ⟨b, o + k * 2, none⟩) hbl).trans hc0; clear hc0
      have hd1 := (hb.cell (p := ⟨b, o + k * 2 + 1, none⟩) hbl).trans hc1; clear hc1
      have hg0 := (hb.cell (p := ⟨b2, o2 + k * 2, none⟩) hbl2).trans he0; clear he0
      have hg1 := (hb.cell (p := ⟨b2, o2 + k * 2 + 1, none⟩) hbl2).trans he1; clear he1
      generalize l.getD k Order.zero = r at *
      go_wp2_with fail
      go_still_tail 8, (by kernel_rfl)
      change wpList _ _ _ _ _ wr.drew
      clear hd0 hg0 hd1 hg1
      have hb' := hb.drew
      clear hb
      generalize wr.drew = w2 at *
      go_wp2_with fail
      refine (eqOrder_same r _).mono ?_
      rintro e w3 ⟨rfl, hb3⟩
      have hb4 := hb'.trans (hb3.mono hb'.size)
      clear hb' hb3
      go_wp2_with fail
      go_roundw
      case rel => exact ⟨k + 1, by omega, by go_num, hb4⟩
      case measure => simp [intOf]; omega
    · go_wp2_with fail
      go_ret
      exact ⟨rfl, hb⟩

theorem szOrderS_ok (A : Option Addr) (n c : Nat) (m : Int) (w : World) (h0 : m ≤ 1048576) (hm : n ≤ m) :
    Calls Try.prog 7 #[.slice A n c, .int .i64 m] w fun e w' => e = .returned (.int .i64 (m - n)) ∧ w = w' := by
  go_enter Try.func7, Try.ntmps7
  go_wp2_with fail
  go_ret
  exact ⟨rfl, rfl⟩
theorem szOrderS_no (A : Option Addr) (n c : Nat) (m : Int) (w : World) (h0 : 0 ≤ m) (hn : n ≤ 9223372036854775807) (hm : m < n) :
    Calls Try.prog 7 #[.slice A n c, .int .i64 m] w fun e w' => e = .returned (.int .i64 (-1)) ∧ w = w' := by
  go_enter Try.func7, Try.ntmps7
  go_wp2_with fail
  go_ret
  exact ⟨rfl, rfl⟩

set_option maxHeartbeats 800000 in
theorem markOrderS_own (base : Nat) (A : Option Addr) (n c : Nat) (m : Int) (cs : List Value) (w : World) (hm : n ≤ 1048576) (h0 : 0 ≤ m) (h1 : m ≤ 10000000) (hA : Own w base 36 2 A n cs) :
    Calls Try.prog 19 #[.slice A n c, .int .i64 m] w fun e w' => e = .returned (.int .i64 (m + (n * 2 : Nat))) ∧ Own w' base 36 2 A n (ints (marks m (n * 2))) ∧ Turned A n w w' := by
  have HA := Lib.hid hA; clear hA
  go_enter Try.func19, Try.ntmps19
  go_wp2_with fail
  go_loopw [1, 5] (fun q i wr => ∃ k : Nat, k ≤ n ∧ i = .int .i64 k ∧ q = .int .i64 (m + k * 2) ∧ (∃ cs', Own wr base 36 2 A n cs' ∧ cs'.take (k * 2) = ints (marks m (k * 2))) ∧ Turned A n w wr) (fun _ i _ => n - (intOf i).toNat)
  case atStart => exact ⟨0, by omega, rfl, by go_num, ⟨cs, HA.out, by simp [ints, marks]⟩, Turned.refl _ _ _⟩
  case round =>
    obtain ⟨k, hk, rfl, rfl, ⟨cs', hown, ht⟩, honly⟩ := hrel
    by_cases hlt : k < n
    · have HT := Lib.hid ht; clear ht
      have hpos : 0 < n := by omega
      obtain ⟨g, rfl, _, _⟩ := hown.form hpos
      have hf0 := hown.frozen hpos (k * 2)
      have hf1 := hown.frozen hpos (k * 2 + 1)
      obtain ⟨u0z, hu0⟩ := hown.has hpos (k * 2) (by omega)
      obtain ⟨u1z, hu1⟩ := hown.has hpos (k * 2 + 1) (by omega)
      have hst := (hown.set (k * 2) (.int .i64 (m + k * 2))).set (k * 2 + 1) (.int .i64 (m + k * 2 + 1))
      have ho' := (honly.setCell hpos (k * 2) (.int .i64 (m + k * 2))).setCell hpos (k * 2 + 1) (.int .i64 (m + k * 2 + 1))
      have hl := Lib.hid hown.1
      clear hown honly
      go_wp2_with fail
      go_roundw
      case rel =>
        refine ⟨k + 1, by omega, by go_num, by go_num, ⟨_, hst, ?_⟩, ho'⟩
        have hl' := hl.out
        rw [show (k + 1) * 2 = k * 2 + 2 by omega]
        exact (marked_at _ (k * 2 + 1) _ _ (by first | omega | (simp; omega)) (by omega) (marked_at _ (k * 2) _ _ (by first | omega | (simp; omega)) (by omega) HT.out))
      case measure => simp [intOf]; omega
    · go_wp2_with fail
      go_ret
      have hkn : k = n := by omega
      subst hkn
      have hl := hown.1
      rw [List.take_of_length_le (by omega)] at ht
      subst ht
      exact ⟨ret_int (by omega), hown, honly⟩

end Go.Proofs.Ytlhfkidgmdojjaa
