/- Contracts of PeakPlan, of the reference and of the program. No statement is proved here. -/
import Derived.Test.YtjlbhpogmjjbiaaDoorBatP
import Derived.Test.YtjlbhpogmjjbiaaDoorRow
namespace Go.Proofs.YtjlbhpogmjjbiaaDoor
open Go.RowKit

/-- what PeakPlan returns -/
def IsPlan (o : Option (List Int)) (w : World) (e : Ending) (w' : World) : Prop :=
  ∃ B c, e = .returned (.tuple #[.slice B (o.getD []).length c, .bool o.isSome]) ∧ Own w' w.heap.size 3 1 B (o.getD []).length (ints (o.getD [])) ∧ Below w.heap.size w w'
theorem isPlan_none {o : Option (List Int)} {B : Option Addr} {c : Nat} {w w' : World} (h : o = none) (hb : Below w.heap.size w w') : IsPlan o w (.returned (.tuple #[.slice B 0 c, .bool false])) w' := by
  subst h; exact ⟨B, c, rfl, Own.nil, hb⟩
theorem isPlan_some {o : Option (List Int)} {acc : List Int} {B : Option Addr} {c : Nat} {w w' : World} {base : Nat} (h : o = some acc) (hown : w'.ownsRow base 3 1 (.slice B acc.length c) acc.length (ints acc)) (hbase : w.heap.size ≤ base) (hb : Below w.heap.size w w') :
    IsPlan o w (.returned (.tuple #[.slice B acc.length c, .bool true])) w' := by
  subst h
  obtain ⟨B', c', e, ho⟩ := own_of_row hown
  cases e
  exact ⟨B, c, rfl, ho.mono hbase, hb⟩
theorem planV_bad {s r l pk : Int} {xs : List Int} (h : (batB s r l && loadsB xs && decide (0 ≤ pk)) = false) : planV s r l pk xs = none := by rw [planV, h]; rfl
theorem planV_ok {s r l pk : Int} {xs : List Int} (h : batB s r l = true) (h2 : loadsB xs = true) (h3 : 0 ≤ pk) : planV s r l pk xs = planL s r pk l xs := by rw [planV, h, h2]; simp [h3]
theorem block_grown {w w1 : World} {g base : Nat} {o ob : Obj} {v : Value} {E : TypeId} {size n : Nat} {cs : List Value} (h : w.heap[g]? = some o) (hown : w.ownsRow base E size v n cs) (hg : (w.alloc ob).grownBy w1 v.ownBlock) (hlt : g < base) : w1.heap[g]? = some o := by
  have hgl : g < w.heap.size := by
    rcases Nat.lt_or_ge g w.heap.size with hlt | hge
    · exact hlt
    · rw [Array.getElem?_eq_none hge] at h; cases h
  rw [hg.block g (by simp; omega), Below.heap_alloc _ _ _ hgl, h]
  rcases hown.2 with ⟨rfl, _⟩ | ⟨g', cap, cur, rfl, hge, _⟩
  · simp [Value.ownBlock]
  · simp [Value.ownBlock]; omega
theorem plan_grown {w w1 w0 : World} {o : Obj} {v : Value} {E : TypeId} {size n : Nat} {cs : List Value} (hb : Below w0.heap.size w0 w) (hown : w.ownsRow (w0.heap.size + 1) E size v n cs) (hg : (w.alloc o).grownBy w1 v.ownBlock) : Below w0.heap.size w0 w1 := by
  refine (allocB hb o).grown hg (by have := hb.size; simp; omega) (fun k hk => ?_)
  rcases hown.2 with ⟨rfl, _⟩ | ⟨g, cap, cur, rfl, hge, _⟩
  · simp [Value.ownBlock] at hk
  · simp [Value.ownBlock] at hk; omega
theorem plan_step {s r pk l lv : Int} {xs acc : List Int} {k : Nat} (h : planL s r pk l xs = (planL s r pk lv (xs.drop k)).map (acc ++ ·)) (hk : k < xs.length) (hx : ¬ takeB s r lv pk (xs.getD k 0) < -(min r lv)) :
    planL s r pk l xs = (planL s r pk (lv + takeB s r lv pk (xs.getD k 0)) (xs.drop (k + 1))).map ((acc ++ [takeB s r lv pk (xs.getD k 0)]) ++ ·) := by
  rw [h, planL_drop hk, if_neg hx, Option.map_map]
  congr 1
  funext t; simp
theorem plan_stop {s r pk l lv : Int} {xs acc : List Int} {k : Nat} (h : planL s r pk l xs = (planL s r pk lv (xs.drop k)).map (acc ++ ·)) (hk : k < xs.length) (hx : takeB s r lv pk (xs.getD k 0) < -(min r lv)) :
    planL s r pk l xs = none := by
  rw [h, planL_drop hk, if_pos hx]; rfl
theorem plan_end {s r pk l lv : Int} {xs acc : List Int} {k : Nat} (h : planL s r pk l xs = (planL s r pk lv (xs.drop k)).map (acc ++ ·)) (hk : xs.length ≤ k) : planL s r pk l xs = some acc := by
  rw [h, List.drop_eq_nil_of_le hk, planL]; simp

theorem take_of (s r y pk x : Int) : (if pk - x < if s - y < r then s - y else r then pk - x else if s - y < r then s - y else r) = takeB s r y pk x := by
  unfold takeB; repeat' split
  all_goals omega
theorem take_in {s r y pk x : Int} (a3 : 0 ≤ r) (y1 : y ≤ s) (hp : 0 ≤ pk) (x1 : x ≤ 999) : takeB s r y pk x ≤ r ∧ takeB s r y pk x ≤ s - y ∧ -999 ≤ takeB s r y pk x := by unfold takeB; omega

set_option maxHeartbeats 2000000 in
theorem specPP (A : Option Addr) (n c : Nat) (s r l pk : Int) (xs : List Int) (w : World) (hn : xs.length = n) (hm : n ≤ 1048576) (hpk : pk ≤ 9223372036854775807) (hA : Rd w A (ints xs)) :
    Calls Tryd.prog 21 #[.agg #[.int .i64 s, .int .i64 r, .int .i64 l], .slice A n c, .int .i64 pk] w (IsPlan (planV s r l pk xs) w) := by
  have HA := Lib.hid hA; clear hA
  have HN := Lib.hid hn; clear hn
  have hbx : Below w.heap.size w ((w.alloc (.cells #[.int .i64 s, .int .i64 r, .int .i64 l] 24)).alloc (.cells #[] 3)) := allocB (allocB (Below.refl _ _) _) _
  have HX := Lib.hid hbx
  cases hv : batB s r l with
  | false =>
    have HO := Lib.hid (planV_bad (s := s) (r := r) (l := l) (pk := pk) (xs := xs) (by rw [hv]; rfl))
    go_enter Tryd.func21, Tryd.ntmps21
    go_wp2_with (go_at_call 10; refine (specBV _ _ _ _).mono ?_; rintro e w1 ⟨rfl, hb1⟩)
    go_ret2
    exact isPlan_none HO.out (seqB hbx hb1)
  | true =>
    cases hl : loadsB xs with
    | false =>
      have HO := Lib.hid (planV_bad (s := s) (r := r) (l := l) (pk := pk) (xs := xs) (by rw [hl]; simp))
      go_enter Tryd.func21, Tryd.ntmps21
      go_wp2_with (first | (go_at_call 10; refine (specBV _ _ _ _).mono ?_; rintro e w1 ⟨rfl, hb1⟩; replace HX := Lib.hid (seqB HX.out hb1); replace hbx := seqB hbx hb1; clear hb1) | (go_at_call 37; refine (specLd _ _ _ xs _ HN.out hm (HA.out.below HX.out)).mono ?_; rintro e w' ⟨rfl, rfl⟩))
      go_ret2
      exact isPlan_none HO.out hbx
    | true =>
      by_cases hpos : 0 ≤ pk
      case neg =>
        have HO := Lib.hid (planV_bad (s := s) (r := r) (l := l) (pk := pk) (xs := xs) (by simp [hpos]))
        go_enter Tryd.func21, Tryd.ntmps21
        go_wp2_with (first | (go_at_call 10; refine (specBV _ _ _ _).mono ?_; rintro e w1 ⟨rfl, hb1⟩; replace HX := Lib.hid (seqB HX.out hb1); replace hbx := seqB hbx hb1; clear hb1) | (go_at_call 37; refine (specLd _ _ _ xs _ HN.out hm (HA.out.below HX.out)).mono ?_; rintro e w' ⟨rfl, rfl⟩))
        go_ret2
        exact isPlan_none HO.out hbx
      have HO := Lib.hid (planV_ok hv hl hpos)
      have h12 : n ≤ 12 := by have := loads_len hl; have := HN.out; omega
      obtain ⟨⟨a1, a2⟩, ⟨a3, a4⟩, a5, a6⟩ := bat_of hv
      have HL := Lib.hid hl
      obtain ⟨i0, hi0, hz0, hz1, hz2⟩ := info_parts info_int
      have HI := Lib.hid (And.intro hi0 (And.intro hz0 (And.intro hz1 hz2))); clear hi0 hz0 hz1 hz2
      have hbox : Hid (((w.alloc (.cells #[.int .i64 s, .int .i64 r, .int .i64 l] 24)).alloc (.cells #[] 3)).heap[w.heap.size]? = some (.cells #[.int .i64 s, .int .i64 r, .int .i64 l] 24 (0, 0))) := by
        rw [Hid, Below.heap_alloc _ _ _ (by simp)]; exact heap_alloc_new w _
      have hown0 : Hid (((w.alloc (.cells #[.int .i64 s, .int .i64 r, .int .i64 l] 24)).alloc (.cells #[] 3)).ownsRow (w.heap.size + 1) 3 1 (.slice (some ⟨w.heap.size + 1, 0, none⟩) 0 0) 0 []) := by
        rw [Hid]
        have := World.ownsRow_lit (base := w.heap.size + 1) (e := 3) (size := 1) (w.alloc (.cells #[.int .i64 s, .int .i64 r, .int .i64 l] 24)) #[] 0 (by simp) (Nat.zero_le _) rfl
        simpa using this
      go_enter Tryd.func21, Tryd.ntmps21
      go_wp2_with (first | (go_at_call 10; refine (specBV _ _ _ _).mono ?_; rintro e w1 ⟨rfl, hb1⟩; replace hbox := Lib.hid ((hb1.block _ (by simp; omega)).trans hbox.out); replace hown0 := Lib.hid (row_below hown0.out hb1); replace HX := Lib.hid (seqB HX.out hb1); replace hbx := seqB hbx hb1; clear hb1; have g2 : w1.cell? ⟨w.heap.size, 2, none⟩ = some (.int .i64 l) := cell_of_row _ _ 2 _ _ (0, 0) hbox.out) | (go_at_call 37; refine (specLd _ _ _ xs _ HN.out hm (HA.out.below HX.out)).mono ?_; rintro e w' ⟨rfl, rfl⟩))
      clear g2
      go_loopw [8, 9, 10] (fun v lv i wr => ∃ (k : Nat) (y : Int) (acc : List Int), k ≤ n ∧ i = .int .i64 k ∧ lv = .int .i64 y ∧ 0 ≤ y ∧ y ≤ s ∧ (∃ B c', v = .slice B acc.length c' ∧ wr.ownsRow (w.heap.size + 1) 3 1 (.slice B acc.length c') acc.length (ints acc)) ∧ acc.length ≤ k ∧
        Hid (planL s r pk l xs = (planL s r pk y (xs.drop k)).map (acc ++ ·)) ∧ Hid (wr.heap[w.heap.size]? = some (.cells #[.int .i64 s, .int .i64 r, .int .i64 l] 24 (0, 0))) ∧ Below w.heap.size w wr) (fun _ _ i _ => n - (intOf i).toNat)
      case atStart => exact ⟨0, l, [], by omega, rfl, rfl, a5, a6, ⟨_, _, rfl, hown0.out⟩, by simp, by simp [Hid], hbox, hbx⟩
      case round =>
        clear hbx HX hbox hown0
        obtain ⟨k, y, acc, hk, rfl, rfl, y0, y1, ⟨B, c', rfl, hown⟩, hacc, hp, hbox, hbw⟩ := hrel
        by_cases hlt : k < n
        · obtain ⟨b, o, rfl, _, hck⟩ := (HA.out.below hbw).int (k := k) (by have := HN.out; omega)
          obtain ⟨x0, x1⟩ := loads_each HL.out (k := k) (by have := HN.out; omega)
          have f0 : wr.cell? ⟨w.heap.size, 0, none⟩ = some (.int .i64 s) := cell_of_row _ _ 0 _ _ (0, 0) hbox.out
          have f1 : wr.cell? ⟨w.heap.size, 1, none⟩ = some (.int .i64 r) := cell_of_row _ _ 1 _ _ (0, 0) hbox.out
          have HS1 := Lib.hid (plan_step (acc := acc) (lv := y) hp.out (by have := HN.out; omega))
          have HS2 := Lib.hid (plan_stop (acc := acc) (lv := y) hp.out (by have := HN.out; omega))
          clear hp
          generalize xs.getD k 0 = x at *
          have hi0 : (0 : Int) ≤ (k : Int) := Int.natCast_nonneg _
          have hi1 : (k : Int) < (n : Int) := by omega
          go_wp2_with fail
          have wr1 : IntKind.i64.wrap (s - y) = s - y := IntWalk.i64_in _ (by omega)
          have wr2 : IntKind.i64.wrap (pk - x) = pk - x := IntWalk.i64_in _ (by omega)
          go_quiet (fail)
          clear wr1 wr2
          rw [take_of]
          obtain ⟨t0, t1, t2⟩ := take_in (s := s) (r := r) (y := y) (pk := pk) (x := x) a3 y1 hpos x1
          generalize takeB s r y pk x = t at *
          replace hbw := drewNB hbw nq
          replace hown := row_below hown (drewB wr nq)
          replace hbox := Lib.hid (((drewB wr nq).block _ (by have := hbw.size; rcases Nat.lt_or_ge w.heap.size wr.heap.size with h | h; exact h; have := hbox.out; rw [Array.getElem?_eq_none h] at this; cases this)).trans hbox.out)
          replace f0 : (wr.drewN nq).cell? ⟨w.heap.size, 0, none⟩ = some (.int .i64 s) := f0
          replace f1 : (wr.drewN nq).cell? ⟨w.heap.size, 1, none⟩ = some (.int .i64 r) := f1
          generalize wr.drewN nq = wr at *
          clear hck
          have HZ : Hid (w.heap.size + 1 ≤ wr.heap.size) := by
            rcases Nat.lt_or_ge w.heap.size wr.heap.size with h | h
            · exact h
            · have := hbox.out; rw [Array.getElem?_eq_none h] at this; cases this
          by_cases hyr : y < r
          · by_cases hst : t < -y
            · go_wp2_with fail
              go_ret2
              exact isPlan_none (by rw [HO.out]; exact HS2.out (by omega)) (allocB hbw _)
            · go_wp2_with (at_builtin; refine wpList_app1 wr rfl _ _ _ rfl (w.heap.size + 1) 3 i0 _ 1 8 Tryd.underlying29 HI.out rfl (by omega) (.slice B acc.length c') acc.length (ints acc) rfl hown #[.int .i64 t] rfl rfl (by simp [Value.oneCell']) (by omega) (by omega) HZ.out ?_; intro v' w3 hown3 hg3)
              replace hbw := plan_grown hbw hown hg3
              replace hbox := Lib.hid (block_grown hbox.out hown hg3 (by omega))
              have hsn := snoc_ints hown3 rfl
              clear hg3 hown hown3
              go_roundw
              case rel => exact ⟨k + 1, y + t, acc ++ [t], by omega, by go_num, rfl, by omega, by omega, hsn, by simp; omega, HS1.out (by omega), hbox, hbw⟩
              case measure => simp [intOf]; omega
          · by_cases hst : t < -r
            · go_wp2_with fail
              go_ret2
              exact isPlan_none (by rw [HO.out]; exact HS2.out (by omega)) (allocB hbw _)
            · go_wp2_with (at_builtin; refine wpList_app1 wr rfl _ _ _ rfl (w.heap.size + 1) 3 i0 _ 1 8 Tryd.underlying29 HI.out rfl (by omega) (.slice B acc.length c') acc.length (ints acc) rfl hown #[.int .i64 t] rfl rfl (by simp [Value.oneCell']) (by omega) (by omega) HZ.out ?_; intro v' w3 hown3 hg3)
              replace hbw := plan_grown hbw hown hg3
              replace hbox := Lib.hid (block_grown hbox.out hown hg3 (by omega))
              have hsn := snoc_ints hown3 rfl
              clear hg3 hown hown3
              go_roundw
              case rel => exact ⟨k + 1, y + t, acc ++ [t], by omega, by go_num, rfl, by omega, by omega, hsn, by simp; omega, HS1.out (by omega), hbox, hbw⟩
              case measure => simp [intOf]; omega
        · go_wp2_with fail
          go_ret2
          exact isPlan_some (by rw [HO.out, plan_end hp.out (by have := HN.out; omega)]) hown (by omega) hbw
end Go.Proofs.YtjlbhpogmjjbiaaDoor
