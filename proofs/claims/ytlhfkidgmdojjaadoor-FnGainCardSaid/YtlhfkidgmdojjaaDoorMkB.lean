/- The contract of the program's byPrice. No statement is proved here. -/
import Derived.Test.YtlhfkidgmdojjaaDoorMkS
namespace Go.Proofs.YtlhfkidgmdojjaaDoor
open Go.RowKit

theorem nats_marks (n : Nat) : nats (List.range n) = marks 0 n := by simp [nats, marks]
/-- the indices in order, in memory of its own -/
def RetIx (l : List Order) (b : Bool) (n : Nat) (w : World) (e : Ending) (w' : World) : Prop :=
  ∃ (ys : List Nat) (g : Nat), e = .returned (.slice (some ⟨g, 0, none⟩) n n) ∧ ys.length = n ∧ ys.Pairwise (Rk l b) ∧ (∀ k, k ∈ ys ↔ k < n) ∧ Own w' w.heap.size 3 1 (some ⟨g, 0, none⟩) n (ints (nats ys)) ∧ Below w.heap.size w w'
theorem cell_turned {n g g' : Nat} {w w' : World} (h : Turned (some ⟨g', 0, none⟩) n w w') (hne : g ≠ g') : w'.cell? ⟨g, 0, none⟩ = w.cell? ⟨g, 0, none⟩ := by
  have := h.block g (fun a _ ha => by cases ha; exact hne)
  simp only [World.cell?, this]
set_option maxHeartbeats 1000000 in
theorem implBP (sg : Int) (b : Bool) (hsb : sg = 1 ∧ b = false ∨ sg = -1 ∧ b = true) (A : Option Addr) (n c : Nat) (l : List Order) (w : World) (hn : l.length = n) (h6 : n ≤ 6) (hA : Rd w A (flatOrder l)) :
    Calls Tryd.prog 26 #[.slice A n c, .int .i64 sg] w (RetIx l b n w) := by
  have HA := Lib.hid hA; clear hA
  have HN := Lib.hid hn; clear hn
  have HSB := Lib.hid hsb; clear hsb
  obtain ⟨i0, hi0, hz0, hz1, hz2⟩ := info_parts info_int
  have HI := Lib.hid (And.intro hi0 (And.intro hz0 (And.intro hz1 hz2))); clear hi0 hz0 hz1 hz2
  have hb0 : Below w.heap.size w ((w.alloc (.cells #[.slice A n c] 23)).alloc (.cells #[.int .i64 sg] 3)) := allocB (allocB (Below.refl _ _) _) _
  have hs0 : ((w.alloc (.cells #[.slice A n c] 23)).alloc (.cells #[.int .i64 sg] 3)).heap.size = w.heap.size + 1 + 1 := by simp
  obtain ⟨hl1, hl2⟩ := two_boxes w #[.slice A n c] #[.int .i64 sg] 23 3
  have hx1 := hl1 0
  have hx2 := hl2 0
  simp only [List.getElem?_toArray, List.getElem?_cons_zero] at hx1 hx2
  clear hl1 hl2
  have HX := Lib.hid (And.intro hx1 hx2); clear hx1 hx2
  have HS0 := Lib.hid hs0; clear hs0
  go_enter Tryd.func26, Tryd.ntmps26
  go_wp2_with (at_make; refine wpList_make_full _ rfl _ _ _ rfl ((w.alloc (.cells #[.slice A n c] 23)).alloc (.cells #[.int .i64 sg] 3)).heap.size 3 i0 (.int .i64 0) 1 Tryd.underlying26 HI.out.1 HI.out.2.1 HI.out.2.2.1 .i64 .i64 n n n rfl rfl rfl rfl (by rw [HI.out.2.2.2]; omega) (by unfold maxLen; omega) (Nat.le_refl _) ?_; intro w1 hown1 hg1)
  have hbx := (Below.refl ((w.alloc (.cells #[.slice A n c] 23)).alloc (.cells #[.int .i64 sg] 3)).heap.size ((w.alloc (.cells #[.slice A n c] 23)).alloc (.cells #[.int .i64 sg] 3))).grown hg1 (Nat.le_refl _) (by simp)
  obtain ⟨A', c', e', ho0⟩ := own_of_row hown1
  cases e'
  rw [HS0.out] at ho0
  have hk1 := (hbx.cell (p := ⟨w.heap.size, 0, none⟩) (by simp; omega)).trans HX.out.1
  have hk2 := (hbx.cell (p := ⟨w.heap.size + 1, 0, none⟩) (by simp)).trans HX.out.2
  have HKK := Lib.hid (And.intro hk1 hk2); clear hk1 hk2
  have hb1 := seqB hb0 hbx
  generalize hcs : (madeCells _ (n * 1)).toList = cs0 at ho0
  clear hown1 hg1 hcs hb0 hbx HX HS0
  have hw1 : w.heap.size ≤ w1.heap.size := hb1.size
  go_loopw [12] (fun i wr => ∃ k : Nat, k ≤ n ∧ i = .int .i64 k ∧ (∃ cs', Own wr (w.heap.size + 1 + 1) 3 1 (some ⟨w.heap.size + 1 + 1, 0, none⟩) n cs' ∧ cs'.take k = ints (marks 0 k)) ∧ Turned (some ⟨w.heap.size + 1 + 1, 0, none⟩) n w1 wr) (fun i _ => n - (intOf i).toNat)
  case atStart => exact ⟨0, by omega, rfl, ⟨cs0, ho0, by simp [ints, marks]⟩, Turned.refl _ _ _⟩
  case round =>
    clear ho0
    obtain ⟨k, hk, rfl, ⟨cs', hown, ht⟩, honly⟩ := hrel
    by_cases hlt : k < n
    · have HT := Lib.hid ht; clear ht
      have hpos : 0 < n := by omega
      have hfr := hown.frozen hpos k
      obtain ⟨u, hcl⟩ := hown.has hpos k (by omega)
      have hst := hown.set k (.int .i64 k)
      have ho' := honly.setCell hpos k (.int .i64 k)
      have hl := Lib.hid hown.1
      clear hown honly
      go_wp2_with fail
      go_roundw
      case rel => exact ⟨k + 1, by omega, by go_num, ⟨_, hst, marked_at _ _ 0 _ (by have := hl.out; omega) (by omega) HT.out⟩, ho'⟩
      case measure => simp [intOf]; omega
    · have hkn : k = n := by omega
      subst hkn
      have hl := hown.1
      rw [List.take_of_length_le (by omega), ← nats_marks] at ht
      subst ht
      have hgb : Below w.heap.size w wr := hb1.trans (honly.below (fun a h0 ha => by cases ha; simp; omega))
      rcases Nat.eq_zero_or_pos k with h0 | h0
      · subst h0
        go_wp2_with fail
        refine (sortC _ 0 0 _ _ (by omega) (fun w' => w' = wr) ((ins0 _ 0 _ wr).mono (fun e w' h => ⟨h.1, h.2.symm⟩))).mono ?_
        rintro e w' ⟨rfl, rfl⟩
        go_wp2_with fail
        go_ret
        exact ⟨[], _, rfl, rfl, List.Pairwise.nil, fun k => by simp, Own.nil, hgb⟩
      · obtain ⟨hk1, hk2⟩ := HKK.out
        have hc1 := (cell_turned honly (show w.heap.size ≠ w.heap.size + 1 + 1 by omega)).trans hk1
        have hc2 := (cell_turned honly (show w.heap.size + 1 ≠ w.heap.size + 1 + 1 by omega)).trans hk2
        have hAA := HA.out.below hgb
        have hAg : ∀ a, A = some a → a.block ≠ w.heap.size + 1 + 1 := by
          intro a ea
          obtain ⟨x, o, e, hlt', _⟩ := HA.out (by rw [flatOrder_length, HN.out]; omega)
          rw [ea] at e; cases e; simp; omega
        go_wp2_with fail
        refine (sortC _ k k _ _ h6 (fun w' => ∃ ys : List Nat, ys.length = k ∧ ys.Pairwise (Rk l b) ∧ (∀ j, j ∈ ys ↔ j < k) ∧ Own w' (w.heap.size + 1 + 1) 3 1 (some ⟨w.heap.size + 1 + 1, 0, none⟩) k (ints (nats ys)) ∧ Turned (some ⟨w.heap.size + 1 + 1, 0, none⟩) k wr w') (insC (w.heap.size + 1 + 1) (w.heap.size + 1 + 1) (w.heap.size + 1) w.heap.size sg b HSB.out A k c k l wr HN.out h0 h6 (by omega) (by omega) hAg hc2 hc1 hAA hown)).mono ?_
        rintro e w' ⟨rfl, ys, e1, e2, e3, e4, e5⟩
        have HE := Lib.hid (And.intro e2 e3); clear e2 e3
        go_wp2_with fail
        go_ret
        exact ⟨ys, _, rfl, e1, HE.out.1, HE.out.2, e4.mono (by omega), hgb.trans (e5.below (fun a h0 ha => by cases ha; simp; omega))⟩
end Go.Proofs.YtlhfkidgmdojjaaDoor
