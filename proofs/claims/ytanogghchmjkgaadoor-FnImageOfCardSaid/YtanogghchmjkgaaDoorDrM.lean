/- Contracts of the functions that draw samples and reports: what is drawn is of the right form; nothing is said of its values. No statement is proved here. -/
import Derived.Test.YtanogghchmjkgaaDoorDrL
import Derived.Test.YtanogghchmjkgaaDoorFrB
import Derived.Test.YtanogghchmjkgaaDoorApp
import Derived.Test.YtanogghchmjkgaaDoorGap
import Derived.Deep.CutRange
namespace Go.Proofs.YtanogghchmjkgaaDoor
open Go.RowKit

theorem row_cons {w : World} {base : Nat} {v : Value} {x : Int} {acc : List Int} (h : w.ownsRow base 3 1 v (1 + acc.length) ([.int .i64 x] ++ ints acc)) : ∃ B c, v = .slice B (x :: acc).length c ∧ w.ownsRow base 3 1 (.slice B (x :: acc).length c) (x :: acc).length (ints (x :: acc)) := by
  rw [show 1 + acc.length = (x :: acc).length by simp; omega] at h
  obtain ⟨B, c, rfl, _⟩ := own_of_row h
  exact ⟨B, c, rfl, h⟩
theorem fm_nil {B : Option Addr} {n c : Nat} (h : Fm B n c) (e : B = none) : n = 0 ∧ c = 0 := by
  obtain ⟨h1, h2⟩ := h
  rcases h2 with ⟨_, h⟩ | ⟨g, h⟩
  · exact ⟨by omega, h⟩
  · rw [e] at h; cases h
theorem own_blk {a n c k : Nat} (h : (Value.slice (some ⟨a, 0, none⟩) n c).ownBlock = some k) : k = a := by
  unfold Value.ownBlock at h; simpa [eq_comm] using h
def max0 (t : Int) : Int := if t < 0 then 0 else t
theorem max0_eq (t : Int) : (if t < 0 then 0 else t) = max0 t := rfl
theorem max0_in (t : Int) : 0 ≤ max0 t ∧ (max0 t ≤ t ∨ max0 t = 0) := by unfold max0; split <;> omega
/-- reports of its own -/
def DrR (m : Nat) (R f : Nat) (w : World) (e : Ending) (w' : World) : Prop :=
  ∃ (l : List Report) (B : Option Addr) (c : Nat), e = .returned (.slice B l.length c) ∧ l.length ≤ m ∧ Fm B l.length c ∧ Own w' w.heap.size 31 2 B l.length (flatReport l) ∧ Rdr w' R f ∧ w.grownBy w' (some R)

set_option maxHeartbeats 4000000 in
theorem drSamples (R f : Nat) (n : Int) (w : World) (hr : Rdr w R f) (hf : f ≤ 900000) (hn0 : 1 ≤ n) (hn : n ≤ 1000) :
    Calls Tryd.prog 34 #[.pointer (some ⟨R, 0, none⟩), .int .i64 n] w (DrI 21 R (f + 70) w) := by
  have HL := Lib.hid hr.lt
  have HR := Lib.hid hr; clear hr
  have HG := Lib.hid (gr_refl w R)
  obtain ⟨i0, hi0, hz0, hz1, hz2⟩ := info_parts info_int
  have HI := Lib.hid (And.intro hi0 (And.intro hz0 (And.intro hz1 hz2))); clear hi0 hz0 hz1 hz2
  go_enter Tryd.func34, Tryd.ntmps34
  have hown : (w.alloc (.cells #[] 3)).ownsRow w.heap.size 3 1 (.slice (some ⟨w.heap.size, 0, none⟩) 0 0) 0 (ints []) := World.ownsRow_lit w #[] 0 (Nat.le_refl _) (Nat.zero_le _) rfl
  replace HR := Lib.hid (rdr_alloc HR.out (.cells #[] 3))
  replace HG := Lib.hid (gr_alloc HG.out (.cells #[] 3))
  go_wp2_with fail
  refine (pickC R _ 60 _ HR.out (by omega) (by omega)).mono ?_
  rintro e w1 ⟨x1, rfl, hx1, hR, hg⟩
  replace hown := row_dr hown hg HL.out
  replace HR := Lib.hid hR
  replace HG := Lib.hid (HG.out.trans hg)
  clear hR hg
  go_wp2_with fail
  refine (pickC R _ 21 _ HR.out (by omega) (by omega)).mono ?_
  rintro e w2 ⟨x2, rfl, hx2, hR, hg⟩
  replace hown := row_dr hown hg HL.out
  replace HR := Lib.hid hR
  replace HG := Lib.hid (HG.out.trans hg)
  clear hR hg
  go_wp2_with fail
  go_loopw [5, 6, 7] (fun v xv i wr => ∃ (k : Nat) (x : Int) (acc : List Int), k ≤ 20 ∧ i = .int .i64 k ∧ xv = .int .i64 x ∧ (0 ≤ x ∧ x ≤ 120 + 4 * (20 - (k : Int))) ∧ acc.length + k ≤ 20 ∧ (∃ B c', v = .slice B acc.length c' ∧ wr.ownsRow w.heap.size 3 1 (.slice B acc.length c') acc.length (ints acc)) ∧ Hid (Rdr wr R (f + 2 + 3 * (20 - k))) ∧ Hid (w.grownBy wr (some R))) (fun _ _ i _ => (intOf i).toNat)
  case atStart => exact ⟨x2, 20 + (x1 : Int), [], by omega, rfl, rfl, by omega, by simp; omega, ⟨_, _, rfl, hown⟩, Lib.hid (HR.out.mono (by omega)), HG⟩
  case round =>
    clear HR HG hown hx1 hx2
    obtain ⟨k, x, acc, hk, rfl, rfl, hx, hacc, ⟨B, c', rfl, hown⟩, HR, HG⟩ := hrel
    by_cases hlt : 0 < k
    · have hgt : decide ((0 : Int) < (k : Int)) = true := by simp; omega
      have hgt' : decide (0 < k) = true := by simp; omega
      go_wp2_with fail
      refine (pickC R _ 9 _ HR.out (by omega) (by omega)).mono ?_
      rintro e w3 ⟨p1, rfl, hp1, hR, hg⟩
      replace hown := row_dr hown hg HL.out
      replace HR := Lib.hid hR
      replace HG := Lib.hid (HG.out.trans hg)
      clear hR hg
      go_upto_region 7 with (fail)
      rw [max0_eq]
      have hmx := max0_in (x + (p1 : Int) - 4)
      generalize max0 (x + (p1 : Int) - 4) = y at *
      go_wp2_with fail
      refine (pickC R _ 8 _ HR.out (by omega) (by omega)).mono ?_
      rintro e w4 ⟨p2, rfl, hp2, hR, hg⟩
      replace hown := row_dr hown hg HL.out
      replace HR := Lib.hid hR
      replace HG := Lib.hid (HG.out.trans hg)
      clear hR hg
      cases e0 : ((p2 : Int) == 0) with
      | true =>
        go_wp2_with fail
        refine (pickC R _ 120 _ HR.out (by omega) (by omega)).mono ?_
        rintro e w5 ⟨p3, rfl, hp3, hR, hg⟩
        replace hown := row_dr hown hg HL.out
        replace HR := Lib.hid hR
        replace HG := Lib.hid (HG.out.trans hg)
        clear hR hg
        go_wp2_with (at_builtin; refine wpList_app1 w5 rfl _ _ _ rfl w.heap.size 3 i0 _ 1 8 Tryd.underlying26 HI.out rfl (by omega) (.slice B acc.length c') acc.length (ints acc) rfl hown #[.int .i64 (p3 : Int)] rfl rfl (by simp [Value.oneCell']) (by omega) (by omega) HG.out.size ?_; intro v' w9 hown9 hg9)
        have HR9 := Lib.hid (rdr_row HR.out hown hg9 HL.out)
        have HG9 := Lib.hid (gr_row HG.out hown hg9 (Nat.le_refl _))
        have hsn := snoc_ints hown9 rfl
        clear hg9 hown hown9
        go_roundw
        case rel => exact ⟨k - 1, p3, acc ++ [(p3 : Int)], by omega, by rw [Int.ofNat_sub (by omega)]; rfl, rfl, by omega, by simp; omega, hsn, Lib.hid (HR9.out.mono (by omega)), HG9⟩
        case measure => simp [intOf]; omega
      | false =>
        go_wp2_with (at_builtin; refine wpList_app1 w4 rfl _ _ _ rfl w.heap.size 3 i0 _ 1 8 Tryd.underlying26 HI.out rfl (by omega) (.slice B acc.length c') acc.length (ints acc) rfl hown #[.int .i64 y] rfl rfl (by simp [Value.oneCell']) (by omega) (by omega) HG.out.size ?_; intro v' w9 hown9 hg9)
        have HR9 := Lib.hid (rdr_row HR.out hown hg9 HL.out)
        have HG9 := Lib.hid (gr_row HG.out hown hg9 (Nat.le_refl _))
        have hsn := snoc_ints hown9 rfl
        clear hg9 hown hown9
        go_roundw
        case rel => exact ⟨k - 1, y, acc ++ [y], by omega, by rw [Int.ofNat_sub (by omega)]; rfl, rfl, by omega, by simp; omega, hsn, Lib.hid (HR9.out.mono (by omega)), HG9⟩
        case measure => simp [intOf]; omega
    · have hgt : decide ((0 : Int) < (k : Int)) = false := by simp; omega
      have hgt' : decide (0 < k) = false := by simp; omega
      go_wp2_with fail
      refine (oddC R _ n _ HR.out (by omega) (by omega) (by omega)).mono ?_
      rintro e w3 ⟨bb, rfl, hR, hg⟩
      replace hown := row_dr hown hg HL.out
      replace HR := Lib.hid hR
      replace HG := Lib.hid (HG.out.trans hg)
      clear hR hg
      cases bb with
      | false =>
        go_wp2_with fail
        go_ret
        exact ⟨acc, B, c', rfl, by omega, row_fm hown, row_own hown, HR.out.mono (by omega), HG.out⟩
      | true =>
        go_wp2_with fail
        refine (pickC R _ 2 _ HR.out (by omega) (by omega)).mono ?_
        rintro e w4 ⟨p, rfl, hp, hR, hg⟩
        replace hown := row_dr hown hg HL.out
        replace HR := Lib.hid hR
        replace HG := Lib.hid (HG.out.trans hg)
        clear hR hg
        cases e0 : ((p : Int) == 0) with
        | true =>
          go_wp2_with (at_make; refine wpList_make_full _ rfl _ _ _ rfl w.heap.size 3 i0 (.int .i64 0) 1 Tryd.underlying26 HI.out.1 HI.out.2.1 HI.out.2.2.1 .i64 .i64 21 21 21 rfl rfl rfl rfl (by rw [HI.out.2.2.2]; omega) (by unfold maxLen; omega) HG.out.size ?_; intro w5 hown5 hgr)
          go_ret
          refine ⟨List.replicate 21 0, some ⟨w4.heap.size, 0, none⟩, 21, rfl, by simp, ⟨by simp, .inr ⟨_, rfl⟩⟩, ?_, (HR.out.kept hgr (by simp)).mono (by omega), HG.out.andThen hgr (by simp)⟩
          have := row_own hown5
          simpa [Value.cells, toList_madeCells_one, ints] using this
        | false =>
          go_wp2_with fail
          refine (pickC R _ 2 _ (rdr_alloc HR.out _) (by omega) (by omega)).mono ?_
          rintro e w5 ⟨y, rfl, hy, hR, hg⟩
          have hbl : w5.heap[w4.heap.size]? = some (.cells #[.int .i64 (-1), .int .i64 1000] 3 (0, 0)) := (hg.block _ (by simp) (by simp; have := blk_lt_rdr HR.out; omega)).trans (heap_alloc_new w4 _)
          have hc0 : w5.cell? ⟨w4.heap.size, 0, none⟩ = some (.int .i64 (-1)) := cell_of_row _ _ 0 _ _ (0, 0) hbl
          have hc1 : w5.cell? ⟨w4.heap.size, 1, none⟩ = some (.int .i64 1000) := cell_of_row _ _ 1 _ _ (0, 0) hbl
          clear hbl
          replace hown := row_dr (hown.alloc _) hg HL.out
          replace HR := Lib.hid hR
          replace HG := Lib.hid ((gr_alloc HG.out _).trans hg)
          clear hR hg
          have hfm := row_fm hown
          have hz5 := HG.out.size
          have hlR := HR.out.lt
          obtain ⟨z, hz, hzc⟩ : ∃ z : Int, (y = 0 ∧ z = -1 ∨ y = 1 ∧ z = 1000) ∧ True := by
            obtain rfl | rfl : y = 0 ∨ y = 1 := by omega
            · exact ⟨-1, .inl ⟨rfl, rfl⟩, trivial⟩
            · exact ⟨1000, .inr ⟨rfl, rfl⟩, trivial⟩
          have hlit : (w5.alloc (.cells #[.int .i64 z] 3)).ownsRow w5.heap.size 3 1 (.slice (some ⟨w5.heap.size, 0, none⟩) 1 1) 1 [.int .i64 z] := World.ownsRow_lit w5 #[.int .i64 z] 1 (Nat.le_refl _) (by unfold maxLen; omega) rfl
          have hrdo : Rd (w5.alloc (.cells #[.int .i64 z] 3)) B (ints acc) := (rd_of_row hown).below (allocB (Below.refl _ _) _)
          rcases hz with ⟨rfl, rfl⟩ | ⟨rfl, rfl⟩
          all_goals
            go_wp2_with (at_builtin; refine wpList_appN _ rfl _ _ _ rfl w5.heap.size 3 i0 _ 1 8 Tryd.underlying26 HI.out rfl (by omega) _ 1 _ rfl hlit B acc.length c' (ints acc) rfl (by simp [ints]) hrdo (fun e => fm_nil hfm e) (by simp [ints, Value.oneCell']) (by omega) (by omega) (by simp) ?_; intro v' w9 hown9 hg9)
            obtain ⟨B2, c2, rfl, hsn⟩ := row_cons hown9
            go_ret
            exact ⟨_ :: acc, B2, c2, rfl, by simp; omega, row_fm hsn, (row_own hsn).mono hz5, ((rdr_alloc HR.out _).kept hg9 (fun k e => by have := own_blk e; omega)).mono (by omega), (gr_alloc HG.out _).andThen hg9 (fun k e => by have := own_blk e; left; omega)⟩

theorem flat_set0 {r : Report} {l : List Report} (x : Int) : (flatReport (r :: l)).set 0 (.int .i64 x) = flatReport (⟨x, r.fValue⟩ :: l) := by simp [flatReport, Report.cells]
theorem flat_set1 {r : Report} {l : List Report} (x : Int) : (flatReport (r :: l)).set 1 (.int .i64 x) = flatReport (⟨r.fAt, x⟩ :: l) := by simp [flatReport, Report.cells]
set_option maxHeartbeats 4000000 in
theorem drReports (R f : Nat) (n : Int) (w : World) (hr : Rdr w R f) (hf : f ≤ 900000) (hn0 : 1 ≤ n) (hn : n ≤ 1000) :
    Calls Tryd.prog 27 #[.pointer (some ⟨R, 0, none⟩), .int .i64 n] w (DrR 7 R (f + 20) w) := by
  have HL := Lib.hid hr.lt
  have HR := Lib.hid hr; clear hr
  have HG := Lib.hid (gr_refl w R)
  obtain ⟨i0, hi0, hz0, hz1, hz2⟩ := info_parts info_Report
  have HI := Lib.hid (And.intro hi0 (And.intro hz0 (And.intro hz1 hz2))); clear hi0 hz0 hz1 hz2
  go_enter Tryd.func27, Tryd.ntmps27
  have hown : (w.alloc (.cells #[] 31)).ownsRow w.heap.size 31 2 (.slice (some ⟨w.heap.size, 0, none⟩) 0 0) 0 (flatReport []) := World.ownsRow_lit w #[] 0 (Nat.le_refl _) (Nat.zero_le _) rfl
  replace HR := Lib.hid (rdr_alloc HR.out (.cells #[] 31))
  replace HG := Lib.hid (gr_alloc HG.out (.cells #[] 31))
  go_wp2_with fail
  refine (pickC R _ 6 _ HR.out (by omega) (by omega)).mono ?_
  rintro e w1 ⟨x1, rfl, hx1, hR, hg⟩
  replace hown := row_dr hown hg HL.out
  replace HR := Lib.hid hR
  replace HG := Lib.hid (HG.out.trans hg)
  clear hR hg
  go_wp2_with fail
  go_loopw [5, 6, 7] (fun v av i wr => ∃ (k a : Nat) (acc : List Report), k ≤ 6 ∧ i = .int .i64 k ∧ av = .int .i64 a ∧ a ≤ 4 * (6 - k) ∧ acc.length + k ≤ 6 ∧ (0 < acc.length ∨ (0 < k ∧ a = 0)) ∧ (∃ B c', v = .slice B acc.length c' ∧ wr.ownsRow w.heap.size 31 2 (.slice B acc.length c') acc.length (flatReport acc)) ∧ Hid (Rdr wr R (f + 1 + 2 * (6 - k))) ∧ Hid (w.grownBy wr (some R))) (fun _ _ i _ => (intOf i).toNat)
  case atStart => exact ⟨1 + x1, 0, [], by omega, by simp, rfl, by omega, by simp; omega, .inr ⟨by omega, rfl⟩, ⟨_, _, rfl, hown⟩, Lib.hid (HR.out.mono (by omega)), HG⟩
  case round =>
    clear HR HG hown hx1
    obtain ⟨k, a, acc, hk, rfl, rfl, ha, hacc, hne, ⟨B, c', rfl, hown⟩, HR, HG⟩ := hrel
    by_cases hlt : 0 < k ∧ a < 20
    · obtain ⟨hlt, ha2⟩ := hlt
      have hgt : decide ((0 : Int) < (k : Int)) = true := by simp; omega
      have hgt' : decide (0 < k) = true := by simp; omega
      have hgt2 : decide ((a : Int) < 20) = true := by simp; omega
      have hgt3 : decide (a < 20) = true := by simp; omega
      go_wp2_with fail
      refine (pickC R _ 90 _ HR.out (by omega) (by omega)).mono ?_
      rintro e w3 ⟨p1, rfl, hp1, hR, hg⟩
      replace hown := row_dr hown hg HL.out
      replace HR := Lib.hid hR
      replace HG := Lib.hid (HG.out.trans hg)
      clear hR hg
      go_wp2_with (at_builtin; refine wpList_app1 w3 rfl _ _ _ rfl w.heap.size 31 i0 _ 2 16 Tryd.underlying23 HI.out rfl (by omega) (.slice B acc.length c') acc.length (flatReport acc) rfl hown #[.int .i64 (a : Int), .int .i64 (p1 : Int)] rfl rfl (by simp [Value.oneCell']) (by omega) (by omega) HG.out.size ?_; intro v' w9 hown9 hg9)
      replace HR := Lib.hid (rdr_row HR.out hown hg9 HL.out)
      replace HG := Lib.hid (gr_row HG.out hown hg9 (Nat.le_refl _))
      obtain ⟨B2, c2, rfl, hsn⟩ := snocReport (r := ⟨a, p1⟩) hown9 rfl
      clear hg9 hown hown9
      go_wp2_with fail
      refine (pickC R _ 4 _ HR.out (by omega) (by omega)).mono ?_
      rintro e w4 ⟨p2, rfl, hp2, hR, hg⟩
      replace hsn := row_dr hsn hg HL.out
      replace HR := Lib.hid hR
      replace HG := Lib.hid (HG.out.trans hg)
      clear hR hg
      go_wp2_with fail
      go_roundw
      case rel => exact ⟨k - 1, a + 1 + p2, acc ++ [⟨a, p1⟩], by omega, by rw [Int.ofNat_sub (by omega)]; rfl, by simp, by omega, by simp; omega, .inl (by simp), ⟨_, _, by simp, hsn⟩, Lib.hid (HR.out.mono (by omega)), HG⟩
      case measure => simp [intOf]; omega
    · have hpos : 0 < acc.length := by omega
      have key : (¬ 0 < k) ∨ (0 < k ∧ ¬ a < 20) := by omega
      clear hne ha
      have hRD : ∃ h : Nat, h = f + 13 ∧ Hid (Rdr wr R h) := ⟨_, rfl, Lib.hid (HR.out.mono (by omega))⟩
      obtain ⟨h, hh, HR⟩ := hRD
      rcases key with e1 | ⟨e1, e2⟩
      all_goals
        go_wp2_with fail
        refine (oddC R _ n _ HR.out (by omega) (by omega) (by omega)).mono ?_
        rintro e w3 ⟨bb, rfl, hR, hg⟩
        replace hown := row_dr hown hg HL.out
        replace HR := Lib.hid hR
        replace HG := Lib.hid (HG.out.trans hg)
        clear hR hg
        cases bb with
        | false =>
          go_wp2_with fail
          go_ret
          exact ⟨acc, B, c', rfl, by omega, row_fm hown, row_own hown, HR.out.mono (by omega), HG.out⟩
        | true =>
          go_wp2_with fail
          refine (pickC R _ 4 _ HR.out (by omega) (by omega)).mono ?_
          rintro e w4 ⟨p, rfl, hp, hR, hg⟩
          replace hown := row_dr hown hg HL.out
          replace HR := Lib.hid hR
          replace HG := Lib.hid (HG.out.trans hg)
          clear hR hg
          have hfm := row_fm hown
          have ho := row_own hown
          obtain ⟨g, rfl, hge, hglt⟩ := ho.form hpos
          have hc0 := ho.has hpos 0 (by omega)
          have hc1 := ho.has hpos 1 (by omega)
          have hf0 := ho.frozen hpos 0
          have hf1 := ho.frozen hpos 1
          obtain ⟨u0, hc0⟩ := hc0
          obtain ⟨u1, hc1⟩ := hc1
          have hHL := HL.out
          have s0 := Lib.hid (ho.set 0 (.int .i64 1))
          have s1 := Lib.hid (ho.set 1 (.int .i64 (-1)))
          obtain rfl | rfl | rfl | rfl : p = 0 ∨ p = 1 ∨ p = 2 ∨ p = 3 := by omega
          · go_wp2_with fail
            go_ret
            exact ⟨[], some ⟨w4.heap.size, 0, none⟩, 0, rfl, by simp, ⟨by simp, .inr ⟨_, rfl⟩⟩, Own.nil, (rdr_alloc HR.out _).mono (by omega), gr_alloc HG.out _⟩
          · go_wp2_with fail
            go_ret
            obtain ⟨r, l, rfl⟩ : ∃ r l, acc = r :: l := by cases acc with
              | nil => simp at hpos
              | cons r l => exact ⟨r, l, rfl⟩
            have s2 := s0.out
            rw [flat_set0] at s2
            exact ⟨⟨1, r.fValue⟩ :: l, _, c', rfl, by simp at hacc ⊢; omega, hfm, s2, (rdr_set HR.out 0 _ (by omega)).mono (by omega), gr_set HG.out 0 _ hge⟩
          · obtain ⟨b, o, e, hbl, hd0, hd1⟩ := ho.rd.atReport (k := acc.length - 1) (by omega)
            cases e
            rw [Nat.zero_add] at hd0 hd1
            generalize acc.getD (acc.length - 1) Report.zero = r at *
            go_wp2_with (at_builtin; refine wpList_app1 w4 rfl _ _ _ rfl w.heap.size 31 i0 _ 2 16 Tryd.underlying23 HI.out rfl (by omega) (.slice (some ⟨g, 0, none⟩) acc.length c') acc.length (flatReport acc) rfl hown #[.int .i64 r.fAt, .int .i64 r.fValue] rfl rfl (by simp [Value.oneCell']) (by omega) (by omega) HG.out.size ?_; intro v' w9 hown9 hg9)
            obtain ⟨B2, c2, rfl, hsn⟩ := snocReport (r := r) hown9 rfl
            go_ret
            exact ⟨acc ++ [r], B2, c2, rfl, by simp; omega, row_fm hsn, row_own hsn, (rdr_row HR.out hown hg9 HL.out).mono (by omega), gr_row HG.out hown hg9 (Nat.le_refl _)⟩
          · go_wp2_with fail
            go_ret
            obtain ⟨r, l, rfl⟩ : ∃ r l, acc = r :: l := by cases acc with
              | nil => simp at hpos
              | cons r l => exact ⟨r, l, rfl⟩
            have s2 := s1.out
            rw [flat_set1] at s2
            exact ⟨⟨r.fAt, -1⟩ :: l, _, c', rfl, by simp at hacc ⊢; omega, hfm, s2, (rdr_set HR.out 1 _ (by omega)).mono (by omega), gr_set HG.out 1 _ hge⟩

end Go.Proofs.YtanogghchmjkgaaDoor
