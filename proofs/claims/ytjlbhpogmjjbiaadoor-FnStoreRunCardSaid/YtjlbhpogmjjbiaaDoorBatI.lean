/- Contract of the program's PeakPlan. No statement is proved here. -/
import Derived.Test.YtjlbhpogmjjbiaaDoorBatQ
import Derived.Deep.CutRange
namespace Go.Proofs.YtjlbhpogmjjbiaaDoor
open Go.RowKit

theorem row_box {w : World} {base g j : Nat} {E : TypeId} {size n : Nat} {v u : Value} {xs : List Value} (h : w.ownsRow base E size v n xs) (hlt : g < base) : (w.setCell ⟨g, j, none⟩ u).ownsRow base E size v n xs := by
  have hg : w.grownBy (w.setCell ⟨g, j, none⟩ u) (some g) := ⟨rfl, rfl, rfl, by simp [World.setCell], fun k _ hk => Below.heap_setCell w ⟨g, j, none⟩ _ k (by intro e; exact hk (by rw [e]))⟩
  refine h.kept hg ?_
  cases hv : v.ownBlock with
  | none => exact .inl rfl
  | some k => right; have := h.lt k hv; simp; omega

theorem take_of2 (s r y pk x : Int) : (if s - y < if r < pk - x then r else pk - x then s - y else if r < pk - x then r else pk - x) = takeB s r y pk x := by
  unfold takeB; repeat' split
  all_goals omega
set_option maxHeartbeats 2000000 in
theorem implPP (A : Option Addr) (n c : Nat) (s r l pk : Int) (xs : List Int) (w : World) (hn : xs.length = n) (hm : n ≤ 1048576) (hpk : pk ≤ 9223372036854775807) (hA : Rd w A (ints xs)) :
    Calls Tryd.prog 20 #[.agg #[.int .i64 s, .int .i64 r, .int .i64 l], .slice A n c, .int .i64 pk] w (IsPlan (planV s r l pk xs) w) := by
  have HA := Lib.hid hA; clear hA
  have HN := Lib.hid hn; clear hn
  have hbx : Below w.heap.size w (w.alloc (.cells #[.int .i64 s, .int .i64 r, .int .i64 l] 24)) := allocB (Below.refl _ _) _
  have HX := Lib.hid hbx
  cases hv : batB s r l with
  | false =>
    have HO := Lib.hid (planV_bad (s := s) (r := r) (l := l) (pk := pk) (xs := xs) (by rw [hv]; rfl))
    go_enter Tryd.func20, Tryd.ntmps20
    go_wp2_with (go_at_call 9; refine (implBV _ _ _ _).mono ?_; rintro e w1 ⟨rfl, hb1⟩)
    go_ret2
    exact isPlan_none HO.out (seqB hbx hb1)
  | true =>
    cases hl : loadsB xs with
    | false =>
      have HO := Lib.hid (planV_bad (s := s) (r := r) (l := l) (pk := pk) (xs := xs) (by rw [hl]; simp))
      go_enter Tryd.func20, Tryd.ntmps20
      go_wp2_with (first | (go_at_call 9; refine (implBV _ _ _ _).mono ?_; rintro e w1 ⟨rfl, hb1⟩; replace HX := Lib.hid (seqB HX.out hb1); replace hbx := seqB hbx hb1; clear hb1) | (go_at_call 36; refine (implLd _ _ _ xs _ HN.out hm (HA.out.below HX.out)).mono ?_; rintro e w' ⟨rfl, rfl⟩))
      go_ret2
      exact isPlan_none HO.out hbx
    | true =>
      by_cases hpos : 0 ≤ pk
      case neg =>
        have HO := Lib.hid (planV_bad (s := s) (r := r) (l := l) (pk := pk) (xs := xs) (by simp [hpos]))
        go_enter Tryd.func20, Tryd.ntmps20
        go_wp2_with (first | (go_at_call 9; refine (implBV _ _ _ _).mono ?_; rintro e w1 ⟨rfl, hb1⟩; replace HX := Lib.hid (seqB HX.out hb1); replace hbx := seqB hbx hb1; clear hb1) | (go_at_call 36; refine (implLd _ _ _ xs _ HN.out hm (HA.out.below HX.out)).mono ?_; rintro e w' ⟨rfl, rfl⟩))
        go_ret2
        exact isPlan_none HO.out hbx
      have HO := Lib.hid (planV_ok hv hl hpos)
      have h12 : n ≤ 12 := by have := loads_len hl; have := HN.out; omega
      obtain ⟨⟨a1, a2⟩, ⟨a3, a4⟩, a5, a6⟩ := bat_of hv
      have HL := Lib.hid hl
      obtain ⟨i0, hi0, hz0, hz1, hz2⟩ := info_parts info_int
      have HI := Lib.hid (And.intro hi0 (And.intro hz0 (And.intro hz1 hz2))); clear hi0 hz0 hz1 hz2
      have hbox : Hid ((w.alloc (.cells #[.int .i64 s, .int .i64 r, .int .i64 l] 24)).heap[w.heap.size]? = some (.cells #[.int .i64 s, .int .i64 r, .int .i64 l] 24 (0, 0))) := heap_alloc_new w _
      have HZ : Hid (w.heap.size + 1 ≤ (w.alloc (.cells #[.int .i64 s, .int .i64 r, .int .i64 l] 24)).heap.size) := by simp [Hid]
      go_enter Tryd.func20, Tryd.ntmps20
      go_wp2_with (first | (go_at_call 9; refine (implBV _ _ _ _).mono ?_; rintro e w1 ⟨rfl, hb1⟩; replace hbox := Lib.hid ((hb1.block _ HZ.out).trans hbox.out); replace HZ := Lib.hid (Nat.le_trans HZ.out hb1.size); replace HX := Lib.hid (seqB HX.out hb1); replace hbx := seqB hbx hb1; clear hb1) | (go_at_call 36; refine (implLd _ _ _ xs _ HN.out hm (HA.out.below HX.out)).mono ?_; rintro e w' ⟨rfl, rfl⟩) | (at_make; refine wpList_make_own _ rfl _ _ _ rfl (w.heap.size + 1) 3 i0 (.int .i64 0) 1 Tryd.underlying29 HI.out.1 HI.out.2.1 HI.out.2.2.1 .i64 .i64 n n rfl rfl rfl (by rw [HI.out.2.2.2]; omega) (by unfold maxLen; omega) HZ.out ?_; intro w2 hown0 hgr))
      replace hbox := Lib.hid ((hgr.block _ HZ.out (by simp)).trans hbox.out)
      replace hbx := hbx.grown hgr hbx.size (by simp)
      clear HX hgr HZ
      go_loopw [8, 10, 11, 29] (fun v _ _ i wr => ∃ (k : Nat) (y : Int) (acc : List Int), k ≤ n ∧ i = .int .i64 k ∧ 0 ≤ y ∧ y ≤ s ∧ (∃ B c', v = .slice B acc.length c' ∧ wr.ownsRow (w.heap.size + 1) 3 1 (.slice B acc.length c') acc.length (ints acc)) ∧ acc.length ≤ k ∧
        Hid (planL s r pk l xs = (planL s r pk y (xs.drop k)).map (acc ++ ·)) ∧ Hid (wr.heap[w.heap.size]? = some (.cells #[.int .i64 s, .int .i64 r, .int .i64 y] 24 (0, 0))) ∧ Below w.heap.size w wr) (fun _ _ _ i _ => n - (intOf i).toNat)
      case atStart => exact ⟨0, l, [], by omega, rfl, a5, a6, ⟨_, _, rfl, hown0⟩, by simp, by simp [Hid], hbox, hbx⟩
      case round =>
        clear hbx hbox hown0
        obtain ⟨k, y, acc, hk, rfl, y0, y1, ⟨B, c', rfl, hown⟩, hacc, hp, hbox, hbw⟩ := hrel
        by_cases hlt : k < n
        · obtain ⟨b, o, rfl, _, hck⟩ := (HA.out.below hbw).int (k := k) (by have := HN.out; omega)
          obtain ⟨x0, x1⟩ := loads_each HL.out (k := k) (by have := HN.out; omega)
          have HZ : Hid (w.heap.size + 1 ≤ wr.heap.size) := by
            rcases Nat.lt_or_ge w.heap.size wr.heap.size with h | h
            · exact h
            · have := hbox.out; rw [Array.getElem?_eq_none h] at this; cases this
          have f0 : wr.cell? ⟨w.heap.size, 0, none⟩ = some (.int .i64 s) := cell_of_row _ _ 0 _ _ (0, 0) hbox.out
          have f1 : wr.cell? ⟨w.heap.size, 1, none⟩ = some (.int .i64 r) := cell_of_row _ _ 1 _ _ (0, 0) hbox.out
          have f2 : wr.cell? ⟨w.heap.size, 2, none⟩ = some (.int .i64 y) := cell_of_row _ _ 2 _ _ (0, 0) hbox.out
          have hfr : wr.frozen? ⟨w.heap.size, 2, none⟩ = false := frozen_of_row wr _ 2 _ _ hbox.out
          have HS1 := Lib.hid (plan_step (acc := acc) (lv := y) hp.out (by have := HN.out; omega))
          have HS2 := Lib.hid (plan_stop (acc := acc) (lv := y) hp.out (by have := HN.out; omega))
          clear hp
          generalize xs.getD k 0 = x at *
          go_upto_region 8 with (fail)
          rw [take_of2]
          obtain ⟨t0, t1, t2⟩ := take_in (s := s) (r := r) (y := y) (pk := pk) (x := x) a3 y1 hpos x1
          generalize takeB s r y pk x = t at *
          by_cases g1 : t < -r
          · go_wp2_with fail
            go_ret2
            exact isPlan_none (by rw [HO.out]; exact HS2.out (by omega)) hbw
          by_cases g2 : t < -y
          · go_wp2_with fail
            go_ret2
            exact isPlan_none (by rw [HO.out]; exact HS2.out (by omega)) hbw
          have hown2 := row_box (j := 2) (u := .int .i64 (y + t)) hown (show w.heap.size < w.heap.size + 1 by omega)
          have hbox2 := Lib.hid (heap_setCell_same wr w.heap.size 2 _ _ (.int .i64 (y + t)) hbox.out)
          have hbw2 := hbw.setCell (p := ⟨w.heap.size, 2, none⟩) (Nat.le_refl _) (.int .i64 (y + t))
          have HZ2 : Hid (w.heap.size + 1 ≤ (wr.setCell ⟨w.heap.size, 2, none⟩ (.int .i64 (y + t))).heap.size) := by have := HZ.out; simpa [Hid, World.setCell] using this
          clear hown hbw
          go_wp2_with (at_builtin; refine wpList_app1g (wr.setCell ⟨w.heap.size, 2, none⟩ (.int .i64 (y + t))) rfl _ _ _ rfl (w.heap.size + 1) 3 i0 _ 1 8 Tryd.underlying29 HI.out rfl (by omega) (.slice B acc.length c') acc.length (ints acc) rfl hown2 #[.int .i64 t] wr.heap.size (by simp [World.setCell]) rfl rfl (by simp [Value.oneCell']) (by omega) (by omega) HZ2.out ?_; intro v' w3 hown3 hg3)
          replace hbw := plan_grown hbw2 hown2 hg3
          replace hbox := Lib.hid (block_grown hbox2.out hown2 hg3 (by omega))
          have hsn := snoc_ints hown3 rfl
          clear hg3 hown2 hown3 hbw2 hbox2
          go_roundw
          case rel => exact ⟨k + 1, y + t, acc ++ [t], by omega, by go_num, by omega, by omega, hsn, by simp; omega, HS1.out (by omega), hbox, hbw⟩
          case measure => simp [intOf]; omega
        · go_wp2_with fail
          go_ret2
          exact isPlan_some (by rw [HO.out, plan_end hp.out (by have := HN.out; omega)]) hown (by omega) hbw
end Go.Proofs.YtjlbhpogmjjbiaaDoor
