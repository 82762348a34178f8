/- Contracts of the functions that draw alarms. No statement is proved here. -/
import Derived.Test.YtodkccjfhpeoaaaDoorDrG
import Derived.Test.YtodkccjfhpeoaaaDoorValAlarm
import Derived.Test.YtodkccjfhpeoaaaDoorSnAlarm
namespace Go.Proofs.YtodkccjfhpeoaaaDoor
open Go.RowKit

theorem flatAlarm_one (l : List Alarm) : ∀ u ∈ flatAlarm l, u.oneCell' = true := by
  intro u hu
  simp only [flatAlarm, List.mem_flatMap] at hu
  obtain ⟨r, _, hr⟩ := hu
  simp only [Alarm.cells, List.mem_cons, List.not_mem_nil, or_false] at hr
  rcases hr with rfl | rfl | rfl <;> rfl
theorem flatAlarm_drop {w : World} {b o : Nat} {l : List Alarm} (h : Rd w (some ⟨b, o, none⟩) (flatAlarm l)) (k : Nat) : Rd w (some ⟨b, o + k * 3, none⟩) (flatAlarm (l.drop k)) := by
  by_cases hk : k ≤ l.length
  · have e : flatAlarm (l.drop k) = (flatAlarm l).drop (k * 3) := by
      have h1 : flatAlarm l = flatAlarm (l.take k) ++ flatAlarm (l.drop k) := by
        unfold flatAlarm; rw [← List.flatMap_append, List.take_append_drop]
      have h2 : (flatAlarm (l.take k)).length = k * 3 := by rw [flatAlarm_length]; simp; omega
      rw [h1, ← h2, List.drop_left]
    rw [e]; exact rdPart h
  · rw [List.drop_eq_nil_of_le (by omega)]; exact Rd.nil
theorem valAlarm_drop {xs : List Alarm} (h : valAlarm xs = true) (j : Nat) : valAlarm (xs.drop j) = true := by
  simp only [valAlarm, Bool.and_eq_true, List.all_eq_true, decide_eq_true_eq] at h ⊢
  exact ⟨fun x hx => h.1 x (List.mem_of_mem_drop hx), by simp; omega⟩
theorem valAlarm_bad (xs : List Alarm) : valAlarm (xs ++ [⟨10, 0, 0⟩]) = false := by
  rw [valAlarm, List.all_append]
  have : ([⟨10, 0, 0⟩] : List Alarm).all okAlarm = false := by decide
  rw [this]; simp
theorem valAlarm_nil : valAlarm [] = true := by decide

set_option maxHeartbeats 4000000 in
theorem drAlarms (R f : Nat) (n : Int) (w : World) (hr : Rdr w R f) (hf : f ≤ 900000) (hn0 : 1 ≤ n) (hn : n ≤ 1000) :
    Calls Tryd.prog 36 #[.pointer (some ⟨R, 0, none⟩), .int .i64 n] w (DrS 47 3 flatAlarm 9 R (f + 40) w) := by
  have HL := Lib.hid hr.lt
  have HR := Lib.hid hr; clear hr
  have HG := Lib.hid (gr_refl w R)
  obtain ⟨i0, hi0, hz0, hz1, hz2⟩ := info_parts info_Alarm
  have HI := Lib.hid (And.intro hi0 (And.intro hz0 (And.intro hz1 hz2))); clear hi0 hz0 hz1 hz2
  go_enter Tryd.func36, Tryd.ntmps36
  have hown : (w.alloc (.cells #[] 47)).ownsRow w.heap.size 47 3 (.slice (some ⟨w.heap.size, 0, none⟩) 0 0) 0 (flatAlarm []) := World.ownsRow_lit w #[] 0 (Nat.le_refl _) (Nat.zero_le _) rfl
  replace HR := Lib.hid (rdr_alloc HR.out (.cells #[] 47))
  replace HG := Lib.hid (gr_alloc HG.out (.cells #[] 47))
  go_wp2_with fail
  refine (pickC R _ 9 _ HR.out (by omega) (by omega)).mono ?_
  rintro e w1 ⟨x1, rfl, hx1, hR, hg⟩
  replace hown := row_dr hown hg HL.out
  replace HR := Lib.hid hR
  replace HG := Lib.hid (HG.out.trans hg)
  clear hR hg
  go_wp2_with fail
  go_loopw [5, 6] (fun v i wr => ∃ (k : Nat) (acc : List Alarm), k ≤ 8 ∧ i = .int .i64 k ∧ acc.length + k ≤ 8 ∧ (∃ B c', v = .slice B acc.length c' ∧ wr.ownsRow w.heap.size 47 3 (.slice B acc.length c') acc.length (flatAlarm acc)) ∧ Hid (Rdr wr R (f + 1 + 3 * (8 - k))) ∧ Hid (w.grownBy wr (some R))) (fun _ i _ => (intOf i).toNat)
  case atStart => exact ⟨x1, [], by omega, rfl, by simp; omega, ⟨_, _, rfl, hown⟩, Lib.hid (HR.out.mono (by omega)), HG⟩
  case round =>
    clear HR HG hown hx1
    obtain ⟨k, acc, hk, rfl, hacc, ⟨B, c', rfl, hown⟩, HR, HG⟩ := hrel
    by_cases hlt : 0 < k
    · skip
      go_wp2_with fail
      refine (pickC R _ 4 _ HR.out (by omega) (by omega)).mono ?_
      rintro e w3 ⟨p1, rfl, hp1, hR, hg⟩
      replace hown := row_dr hown hg HL.out
      replace HR := Lib.hid hR
      replace HG := Lib.hid (HG.out.trans hg)
      clear hR hg
      go_wp2_with fail
      refine (pickC R _ 4 _ HR.out (by omega) (by omega)).mono ?_
      rintro e w4 ⟨p2, rfl, hp2, hR, hg⟩
      replace hown := row_dr hown hg HL.out
      replace HR := Lib.hid hR
      replace HG := Lib.hid (HG.out.trans hg)
      clear hR hg
      go_wp2_with fail
      refine (pickC R _ 20 _ HR.out (by omega) (by omega)).mono ?_
      rintro e w5 ⟨p3, rfl, hp3, hR, hg⟩
      replace hown := row_dr hown hg HL.out
      replace HR := Lib.hid hR
      replace HG := Lib.hid (HG.out.trans hg)
      clear hR hg
      go_wp2_with (at_builtin; refine wpList_app1 w5 rfl _ _ _ rfl w.heap.size 47 i0 _ 3 24 Tryd.underlying31 HI.out rfl (by omega) (.slice B acc.length c') acc.length (flatAlarm acc) rfl hown #[.int .i64 (p1 : Int), .int .i64 (p2 : Int), .int .i64 (p3 : Int)] rfl rfl (by simp [Value.oneCell']) (by omega) (by omega) HG.out.size ?_; intro v' w9 hown9 hg9)
      have HR9 := Lib.hid (rdr_row HR.out hown hg9 HL.out)
      have HG9 := Lib.hid (gr_row HG.out hown hg9 (Nat.le_refl _))
      have hsn := snocAlarm (r := ⟨p1, p2, p3⟩) hown9 rfl
      clear hg9 hown hown9
      go_roundw
      case rel => exact ⟨k - 1, acc ++ [⟨p1, p2, p3⟩], by omega, by rw [Int.ofNat_sub (by omega)]; rfl, by simp; omega, hsn, Lib.hid (HR9.out.mono (by omega)), HG9⟩
      case measure => simp [intOf]; omega
    · skip
      go_wp2_with fail
      refine (oddC R _ n _ HR.out (by omega) (by omega) (by omega)).mono ?_
      rintro e w3 ⟨bb, rfl, hR, hg⟩
      replace hown := row_dr hown hg HL.out
      replace HR := Lib.hid hR
      replace HG := Lib.hid (HG.out.trans hg)
      clear hR hg
      cases bb with
      | false =>
        go_wp2_with fail
        go_ret
        exact ⟨acc, B, c', rfl, by omega, row_fm hown, row_own hown, HR.out.mono (by omega), HG.out⟩
      | true =>
        go_wp2_with fail
        refine (pickC R _ 3 _ HR.out (by omega) (by omega)).mono ?_
        rintro e w4 ⟨p, rfl, hp, hR, hg⟩
        replace hown := row_dr hown hg HL.out
        replace HR := Lib.hid hR
        replace HG := Lib.hid (HG.out.trans hg)
        clear hR hg
        obtain rfl | rfl | rfl : p = 0 ∨ p = 1 ∨ p = 2 := by omega
        · go_wp2_with (at_make; refine wpList_make_full _ rfl _ _ _ rfl w.heap.size 47 i0 (.agg #[.int .i64 0, .int .i64 0, .int .i64 0]) 3 Tryd.underlying31 HI.out.1 HI.out.2.1 HI.out.2.2.1 .i64 .i64 9 9 9 rfl rfl rfl rfl (by rw [HI.out.2.2.2]; omega) (by unfold maxLen; omega) HG.out.size ?_; intro w5 hown5 hgr)
          go_ret
          refine ⟨List.replicate 9 Alarm.zero, some ⟨w4.heap.size, 0, none⟩, 9, rfl, by simp, ⟨by simp, .inr ⟨_, rfl⟩⟩, ?_, (HR.out.kept hgr (by simp)).mono (by omega), HG.out.andThen hgr (by simp)⟩
          have := row_own hown5
          have e : (madeCells (Value.agg #[Value.int IntKind.i64 0, Value.int IntKind.i64 0, Value.int IntKind.i64 0]).cells (9 * 3)).toList = flatAlarm (List.replicate 9 Alarm.zero) := by kernel_rfl
          rw [e] at this
          exact this
        · skip
          have hz5 := HG.out.size
          have hlR := HR.out.lt
          have hfm := row_fm hown
          have hlit : (w4.alloc (.cells #[.int .i64 10, .int .i64 0, .int .i64 0] 47)).ownsRow w4.heap.size 47 3 (.slice (some ⟨w4.heap.size, 0, none⟩) 1 1) 1 [.int .i64 10, .int .i64 0, .int .i64 0] := World.ownsRow_lit w4 #[.int .i64 10, .int .i64 0, .int .i64 0] 1 (Nat.le_refl _) (by unfold maxLen; omega) rfl
          have hrdo : Rd (w4.alloc (.cells #[.int .i64 10, .int .i64 0, .int .i64 0] 47)) B (flatAlarm acc) := (rd_of_row hown).below (allocB (Below.refl _ _) _)
          go_wp2_with (at_builtin; refine wpList_appN _ rfl _ _ _ rfl w4.heap.size 47 i0 _ 3 24 Tryd.underlying31 HI.out rfl (by omega) _ 1 _ rfl hlit B acc.length c' (flatAlarm acc) rfl (flatAlarm_length _) hrdo (fun e => fm_nil hfm e) (flatAlarm_one _) (by omega) (by omega) (by simp) ?_; intro v' w9 hown9 hg9)
          obtain ⟨B2, c2, rfl, hsn⟩ := row_is (n' := ((⟨10, 0, 0⟩ : Alarm) :: acc).length) (cs' := flatAlarm ((⟨10, 0, 0⟩ : Alarm) :: acc)) hown9 (by simp; omega) (by simp [flatAlarm, Alarm.cells])
          go_ret
          exact ⟨(⟨10, 0, 0⟩ : Alarm) :: acc, B2, c2, rfl, by simp; omega, row_fm hsn, (row_own hsn).mono hz5, ((rdr_alloc HR.out _).kept hg9 (fun k e => by have := own_blk e; omega)).mono (by omega), (gr_alloc HG.out _).andThen hg9 (fun k e => by have := own_blk e; left; omega)⟩
        · go_wp2_with fail
          refine (pickC R _ 2 _ (rdr_alloc HR.out _) (by omega) (by omega)).mono ?_
          rintro e w5 ⟨y, rfl, hy, hR, hg⟩
          have hbl : w5.heap[w4.heap.size]? = some (.cells #[.int .i64 (-1), .int .i64 4] 3 (0, 0)) := (hg.block _ (by simp) (by simp; have := blk_lt_rdr HR.out; omega)).trans (heap_alloc_new w4 _)
          have hc0 : w5.cell? ⟨w4.heap.size, 0, none⟩ = some (.int .i64 (-1)) := cell_of_row _ _ 0 _ _ (0, 0) hbl
          have hc1 : w5.cell? ⟨w4.heap.size, 1, none⟩ = some (.int .i64 4) := cell_of_row _ _ 1 _ _ (0, 0) hbl
          clear hbl
          replace hown := row_dr (hown.alloc _) hg HL.out
          replace HR := Lib.hid hR
          replace HG := Lib.hid ((gr_alloc HG.out _).trans hg)
          clear hR hg
          obtain rfl | rfl : y = 0 ∨ y = 1 := by omega
          · skip
            have hz5 := HG.out.size
            have hlR := HR.out.lt
            have hfm := row_fm hown
            have hlit : (w5.alloc (.cells #[.int .i64 0, .int .i64 (-1), .int .i64 0] 47)).ownsRow w5.heap.size 47 3 (.slice (some ⟨w5.heap.size, 0, none⟩) 1 1) 1 [.int .i64 0, .int .i64 (-1), .int .i64 0] := World.ownsRow_lit w5 #[.int .i64 0, .int .i64 (-1), .int .i64 0] 1 (Nat.le_refl _) (by unfold maxLen; omega) rfl
            have hrdo : Rd (w5.alloc (.cells #[.int .i64 0, .int .i64 (-1), .int .i64 0] 47)) B (flatAlarm acc) := (rd_of_row hown).below (allocB (Below.refl _ _) _)
            go_wp2_with (at_builtin; refine wpList_appN _ rfl _ _ _ rfl w5.heap.size 47 i0 _ 3 24 Tryd.underlying31 HI.out rfl (by omega) _ 1 _ rfl hlit B acc.length c' (flatAlarm acc) rfl (flatAlarm_length _) hrdo (fun e => fm_nil hfm e) (flatAlarm_one _) (by omega) (by omega) (by simp) ?_; intro v' w9 hown9 hg9)
            obtain ⟨B2, c2, rfl, hsn⟩ := row_is (n' := ((⟨0, -1, 0⟩ : Alarm) :: acc).length) (cs' := flatAlarm ((⟨0, -1, 0⟩ : Alarm) :: acc)) hown9 (by simp; omega) (by simp [flatAlarm, Alarm.cells])
            go_ret
            exact ⟨(⟨0, -1, 0⟩ : Alarm) :: acc, B2, c2, rfl, by simp; omega, row_fm hsn, (row_own hsn).mono hz5, ((rdr_alloc HR.out _).kept hg9 (fun k e => by have := own_blk e; omega)).mono (by omega), (gr_alloc HG.out _).andThen hg9 (fun k e => by have := own_blk e; left; omega)⟩
          · skip
            have hz5 := HG.out.size
            have hlR := HR.out.lt
            have hfm := row_fm hown
            have hlit : (w5.alloc (.cells #[.int .i64 0, .int .i64 4, .int .i64 0] 47)).ownsRow w5.heap.size 47 3 (.slice (some ⟨w5.heap.size, 0, none⟩) 1 1) 1 [.int .i64 0, .int .i64 4, .int .i64 0] := World.ownsRow_lit w5 #[.int .i64 0, .int .i64 4, .int .i64 0] 1 (Nat.le_refl _) (by unfold maxLen; omega) rfl
            have hrdo : Rd (w5.alloc (.cells #[.int .i64 0, .int .i64 4, .int .i64 0] 47)) B (flatAlarm acc) := (rd_of_row hown).below (allocB (Below.refl _ _) _)
            go_wp2_with (at_builtin; refine wpList_appN _ rfl _ _ _ rfl w5.heap.size 47 i0 _ 3 24 Tryd.underlying31 HI.out rfl (by omega) _ 1 _ rfl hlit B acc.length c' (flatAlarm acc) rfl (flatAlarm_length _) hrdo (fun e => fm_nil hfm e) (flatAlarm_one _) (by omega) (by omega) (by simp) ?_; intro v' w9 hown9 hg9)
            obtain ⟨B2, c2, rfl, hsn⟩ := row_is (n' := ((⟨0, 4, 0⟩ : Alarm) :: acc).length) (cs' := flatAlarm ((⟨0, 4, 0⟩ : Alarm) :: acc)) hown9 (by simp; omega) (by simp [flatAlarm, Alarm.cells])
            go_ret
            exact ⟨(⟨0, 4, 0⟩ : Alarm) :: acc, B2, c2, rfl, by simp; omega, row_fm hsn, (row_own hsn).mono hz5, ((rdr_alloc HR.out _).kept hg9 (fun k e => by have := own_blk e; omega)).mono (by omega), (gr_alloc HG.out _).andThen hg9 (fun k e => by have := own_blk e; left; omega)⟩

set_option maxHeartbeats 1000000 in
theorem dDrawAlarmsValid (A : Option Addr) (m c : Nat) (w : World) (hc : m ≤ c) (hm : m ≤ 1048576) (hA : RdB w A m) : Calls Tryd.prog 24 #[.slice A m c] w (DS 47 3 flatAlarm 9 w) := by
  have HB := Lib.hid hA; clear hA
  have HG := Lib.hid (Below.refl w.heap.size w)
  go_enter Tryd.func24, Tryd.ntmps24
  go_wp2_with fail
  refine (openC _ _ _ _ hc hm (rdb_below HB.out HG.out)).mono ?_
  rintro e w1 ⟨rfl, hR, hbn⟩
  have hRe0 := HG.out.size
  replace HG := Lib.hid (seqB HG.out hbn)
  have HR := Lib.hid hR
  clear hbn hR HB
  obtain ⟨R, hRe⟩ : ∃ R, R = w.heap.size := ⟨_, rfl⟩
  have HRw : w.heap.size ≤ R := by rw [hRe]; exact hRe0
  rw [← hRe] at HR  ⊢
  clear hRe hRe0
  have hlR := HR.out.lt
  have hz_xs := HG.out.size
  go_wp2_with fail
  refine (drAlarms R 0 2 _ HR.out (by omega) (by omega) (by omega)).mono ?_
  rintro e w2 ⟨xs, Bxs, cxs, rfl, hl_xs, hF_xs, ho, hR, hg⟩
  replace HR := Lib.hid hR
  replace HG := Lib.hid (gr_below HG.out hg HRw)
  clear hR hg
  go_wp2_with fail
  go_ret
  exact ⟨xs, Bxs, cxs, rfl, hl_xs, hF_xs, ho.mono (by omega), HG.out⟩
def DII (w : World) (e : Ending) (w' : World) : Prop := ∃ p q : Int, e = .returned (.tuple #[.int .i64 p, .int .i64 q]) ∧ (-10 ≤ p ∧ p ≤ 100) ∧ (-10 ≤ q ∧ q ≤ 100) ∧ Below w.heap.size w w'
set_option maxHeartbeats 1000000 in
theorem dDrawAlarmStep (A : Option Addr) (m c : Nat) (w : World) (hc : m ≤ c) (hm : m ≤ 1048576) (hA : RdB w A m) : Calls Tryd.prog 21 #[.slice A m c] w (DII w) := by
  have HB := Lib.hid hA; clear hA
  have HG := Lib.hid (Below.refl w.heap.size w)
  go_enter Tryd.func21, Tryd.ntmps21
  go_wp2_with fail
  refine (openC _ _ _ _ hc hm (rdb_below HB.out HG.out)).mono ?_
  rintro e w1 ⟨rfl, hR, hbn⟩
  have hRe0 := HG.out.size
  replace HG := Lib.hid (seqB HG.out hbn)
  have HR := Lib.hid hR
  clear hbn hR HB
  obtain ⟨R, hRe⟩ : ∃ R, R = w.heap.size := ⟨_, rfl⟩
  have HRw : w.heap.size ≤ R := by rw [hRe]; exact hRe0
  rw [← hRe] at HR  ⊢
  clear hRe hRe0
  go_wp2_with fail
  refine (pickC R _ 5 _ HR.out (by omega) (by omega)).mono ?_
  rintro e w2 ⟨p0, rfl, hx_p0, hR, hg⟩
  replace HR := Lib.hid hR
  replace HG := Lib.hid (gr_below HG.out hg HRw)
  clear hR hg
  go_wp2_with fail
  refine (pickC R _ 9 _ HR.out (by omega) (by omega)).mono ?_
  rintro e w3 ⟨p1, rfl, hx_p1, hR, hg⟩
  replace HR := Lib.hid hR
  replace HG := Lib.hid (gr_below HG.out hg HRw)
  clear hR hg
  go_wp2_with fail
  refine (pickC R _ 4 _ HR.out (by omega) (by omega)).mono ?_
  rintro e w4 ⟨p2, rfl, hx_p2, hR, hg⟩
  replace HR := Lib.hid hR
  replace HG := Lib.hid (gr_below HG.out hg HRw)
  clear hR hg
  go_wp2_with fail
  refine (pickC R _ 9 _ HR.out (by omega) (by omega)).mono ?_
  rintro e w5 ⟨p3, rfl, hx_p3, hR, hg⟩
  replace HR := Lib.hid hR
  replace HG := Lib.hid (gr_below HG.out hg HRw)
  clear hR hg
  have hp12 : (0 : Int) ≤ (p1 : Int) / 8 ∧ (p1 : Int) / 8 ≤ 1 := by omega
  have hp34 : (0 : Int) ≤ (p3 : Int) / 8 ∧ (p3 : Int) / 8 ≤ 1 := by omega
  go_wp2_with fail
  exact bodyPost_ret (v := .tuple #[.int .i64 ((p0 : Int) - (p1 : Int) / 8), .int .i64 ((p2 : Int) - (p3 : Int) / 8)]) (by simp [results, Tryd.results21, go_sem]) rfl ⟨_, _, rfl, by omega, by omega, HG.out⟩
end Go.Proofs.YtodkccjfhpeoaaaDoor
