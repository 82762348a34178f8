/- Contracts of the functions that draw logs: what is drawn is a list of entries; nothing is said of its values. No statement is proved here. -/
import Derived.Test.YtdlphgknplomkaaDoorDrG
import Derived.Test.YtdlphgknplomkaaDoorLogS
import Derived.Deep.RegionHeld3
namespace Go.Proofs.YtdlphgknplomkaaDoor
open Go.RowKit

def DrEn (R f : Nat) (w : World) (e : Ending) (w' : World) : Prop := ∃ t0 t1 t2 t3 : Int, e = .returned (.agg #[.int .i64 t0, .int .i64 t1, .int .i64 t2, .int .i64 t3]) ∧ Rdr w' R f ∧ w.grownBy w' (some R)
set_option maxHeartbeats 2000000 in
theorem drEntry (R f : Nat) (w : World) (hr : Rdr w R f) (hf : f ≤ 900000) :
    Calls Tryd.prog 35 #[.pointer (some ⟨R, 0, none⟩)] w (DrEn R (f + 4) w) := by
  have HL := Lib.hid hr.lt
  have HR := Lib.hid hr; clear hr
  have HG := Lib.hid (gr_refl w R)
  go_enter Tryd.func35, Tryd.ntmps35
  replace HR := Lib.hid (rdr_alloc HR.out (.cells #[.int .i64 0, .int .i64 0, .int .i64 0, .int .i64 0] 25))
  have B_q := new_box w (.cells #[.int .i64 0, .int .i64 0, .int .i64 0, .int .i64 0] 25)
  have Z_q : w.heap.size ≤ w.heap.size := by have := HG.out.size; first | omega | (simp at this; omega) | (simp at this ⊢; omega)
  have N_q : R < w.heap.size := by have := HL.out; omega
  replace HG := Lib.hid (gr_alloc HG.out (.cells #[.int .i64 0, .int .i64 0, .int .i64 0, .int .i64 0] 25))
  go_wp2_with fail
  refine (pickC R _ 12 _ HR.out (by omega) (by omega)).mono ?_
  rintro e w1 ⟨p0, rfl, hx_p0, hR, hg⟩
  replace B_q := dr_box B_q hg (by omega)
  replace HR := Lib.hid hR
  replace HG := Lib.hid (HG.out.trans hg)
  clear hR hg
  go_wp2_with fail
  refine (pickC R _ 3 _ HR.out (by omega) (by omega)).mono ?_
  rintro e w2 ⟨p1, rfl, hx_p1, hR, hg⟩
  replace B_q := dr_box B_q hg (by omega)
  replace HR := Lib.hid hR
  replace HG := Lib.hid (HG.out.trans hg)
  clear hR hg
  go_wp2_with fail
  refine (pickC R _ 6 _ HR.out (by omega) (by omega)).mono ?_
  rintro e w3 ⟨p2, rfl, hx_p2, hR, hg⟩
  replace B_q := dr_box B_q hg (by omega)
  replace HR := Lib.hid hR
  replace HG := Lib.hid (HG.out.trans hg)
  clear hR hg
  go_wp2_with fail
  refine (pickC R _ 4 _ HR.out (by omega) (by omega)).mono ?_
  rintro e w4 ⟨p3, rfl, hx_p3, hR, hg⟩
  replace B_q := dr_box B_q hg (by omega)
  replace HR := Lib.hid hR
  replace HG := Lib.hid (HG.out.trans hg)
  clear hR hg
  have k_q_5 : w4.cell? ⟨w.heap.size, 0, none⟩ = some (.int .i64 0) := box_cell B_q 0
  have y_q_5 : w4.frozen? ⟨w.heap.size, 0, none⟩ = false := box_free B_q 0
  replace B_q := st_same B_q 0 (.int .i64 (p0 : Int))
  replace HR := Lib.hid (rdr_set HR.out 0 (.int .i64 (p0 : Int)) N_q)
  replace HG := Lib.hid (gr_set HG.out 0 (.int .i64 (p0 : Int)) Z_q)
  replace B_q : Hid ((w4.setCell ⟨w.heap.size, 0, none⟩ (.int .i64 (p0 : Int))).heap[w.heap.size]? = some (.cells #[.int .i64 (p0 : Int), .int .i64 0, .int .i64 0, .int .i64 0] 25 (0, 0))) := B_q
  have k_q_6 : (w4.setCell ⟨w.heap.size, 0, none⟩ (.int .i64 (p0 : Int))).cell? ⟨w.heap.size, 1, none⟩ = some (.int .i64 0) := box_cell B_q 1
  have y_q_6 : (w4.setCell ⟨w.heap.size, 0, none⟩ (.int .i64 (p0 : Int))).frozen? ⟨w.heap.size, 1, none⟩ = false := box_free B_q 1
  replace B_q := st_same B_q 1 (.int .i64 (p1 : Int))
  replace HR := Lib.hid (rdr_set HR.out 1 (.int .i64 (p1 : Int)) N_q)
  replace HG := Lib.hid (gr_set HG.out 1 (.int .i64 (p1 : Int)) Z_q)
  replace B_q : Hid (((w4.setCell ⟨w.heap.size, 0, none⟩ (.int .i64 (p0 : Int))).setCell ⟨w.heap.size, 1, none⟩ (.int .i64 (p1 : Int))).heap[w.heap.size]? = some (.cells #[.int .i64 (p0 : Int), .int .i64 (p1 : Int), .int .i64 0, .int .i64 0] 25 (0, 0))) := B_q
  have k_q_7 : ((w4.setCell ⟨w.heap.size, 0, none⟩ (.int .i64 (p0 : Int))).setCell ⟨w.heap.size, 1, none⟩ (.int .i64 (p1 : Int))).cell? ⟨w.heap.size, 2, none⟩ = some (.int .i64 0) := box_cell B_q 2
  have y_q_7 : ((w4.setCell ⟨w.heap.size, 0, none⟩ (.int .i64 (p0 : Int))).setCell ⟨w.heap.size, 1, none⟩ (.int .i64 (p1 : Int))).frozen? ⟨w.heap.size, 2, none⟩ = false := box_free B_q 2
  replace B_q := st_same B_q 2 (.int .i64 (1 + (p2 : Int)))
  replace HR := Lib.hid (rdr_set HR.out 2 (.int .i64 (1 + (p2 : Int))) N_q)
  replace HG := Lib.hid (gr_set HG.out 2 (.int .i64 (1 + (p2 : Int))) Z_q)
  replace B_q : Hid ((((w4.setCell ⟨w.heap.size, 0, none⟩ (.int .i64 (p0 : Int))).setCell ⟨w.heap.size, 1, none⟩ (.int .i64 (p1 : Int))).setCell ⟨w.heap.size, 2, none⟩ (.int .i64 (1 + (p2 : Int)))).heap[w.heap.size]? = some (.cells #[.int .i64 (p0 : Int), .int .i64 (p1 : Int), .int .i64 (1 + (p2 : Int)), .int .i64 0] 25 (0, 0))) := B_q
  have k_q_8 : (((w4.setCell ⟨w.heap.size, 0, none⟩ (.int .i64 (p0 : Int))).setCell ⟨w.heap.size, 1, none⟩ (.int .i64 (p1 : Int))).setCell ⟨w.heap.size, 2, none⟩ (.int .i64 (1 + (p2 : Int)))).cell? ⟨w.heap.size, 3, none⟩ = some (.int .i64 0) := box_cell B_q 3
  have y_q_8 : (((w4.setCell ⟨w.heap.size, 0, none⟩ (.int .i64 (p0 : Int))).setCell ⟨w.heap.size, 1, none⟩ (.int .i64 (p1 : Int))).setCell ⟨w.heap.size, 2, none⟩ (.int .i64 (1 + (p2 : Int)))).frozen? ⟨w.heap.size, 3, none⟩ = false := box_free B_q 3
  replace B_q := st_same B_q 3 (.int .i64 (p3 : Int))
  replace HR := Lib.hid (rdr_set HR.out 3 (.int .i64 (p3 : Int)) N_q)
  replace HG := Lib.hid (gr_set HG.out 3 (.int .i64 (p3 : Int)) Z_q)
  replace B_q : Hid (((((w4.setCell ⟨w.heap.size, 0, none⟩ (.int .i64 (p0 : Int))).setCell ⟨w.heap.size, 1, none⟩ (.int .i64 (p1 : Int))).setCell ⟨w.heap.size, 2, none⟩ (.int .i64 (1 + (p2 : Int)))).setCell ⟨w.heap.size, 3, none⟩ (.int .i64 (p3 : Int))).heap[w.heap.size]? = some (.cells #[.int .i64 (p0 : Int), .int .i64 (p1 : Int), .int .i64 (1 + (p2 : Int)), .int .i64 (p3 : Int)] 25 (0, 0))) := B_q
  have c_q_0 : ((((w4.setCell ⟨w.heap.size, 0, none⟩ (.int .i64 (p0 : Int))).setCell ⟨w.heap.size, 1, none⟩ (.int .i64 (p1 : Int))).setCell ⟨w.heap.size, 2, none⟩ (.int .i64 (1 + (p2 : Int)))).setCell ⟨w.heap.size, 3, none⟩ (.int .i64 (p3 : Int))).cell? ⟨w.heap.size, 0, none⟩ = some (.int .i64 (p0 : Int)) := box_cell B_q 0
  have c_q_1 : ((((w4.setCell ⟨w.heap.size, 0, none⟩ (.int .i64 (p0 : Int))).setCell ⟨w.heap.size, 1, none⟩ (.int .i64 (p1 : Int))).setCell ⟨w.heap.size, 2, none⟩ (.int .i64 (1 + (p2 : Int)))).setCell ⟨w.heap.size, 3, none⟩ (.int .i64 (p3 : Int))).cell? ⟨w.heap.size, 1, none⟩ = some (.int .i64 (p1 : Int)) := box_cell B_q 1
  have c_q_2 : ((((w4.setCell ⟨w.heap.size, 0, none⟩ (.int .i64 (p0 : Int))).setCell ⟨w.heap.size, 1, none⟩ (.int .i64 (p1 : Int))).setCell ⟨w.heap.size, 2, none⟩ (.int .i64 (1 + (p2 : Int)))).setCell ⟨w.heap.size, 3, none⟩ (.int .i64 (p3 : Int))).cell? ⟨w.heap.size, 2, none⟩ = some (.int .i64 (1 + (p2 : Int))) := box_cell B_q 2
  have c_q_3 : ((((w4.setCell ⟨w.heap.size, 0, none⟩ (.int .i64 (p0 : Int))).setCell ⟨w.heap.size, 1, none⟩ (.int .i64 (p1 : Int))).setCell ⟨w.heap.size, 2, none⟩ (.int .i64 (1 + (p2 : Int)))).setCell ⟨w.heap.size, 3, none⟩ (.int .i64 (p3 : Int))).cell? ⟨w.heap.size, 3, none⟩ = some (.int .i64 (p3 : Int)) := box_cell B_q 3
  go_wp2_with fail
  refine bodyPost_ret (v := .agg #[.int .i64 (p0 : Int), .int .i64 (p1 : Int), .int .i64 (1 + (p2 : Int)), .int .i64 (p3 : Int)]) (by simp [results, Tryd.results35, go_sem, c_q_0, c_q_1, c_q_2, c_q_3]) rfl ⟨_, _, _, _, rfl, HR.out.mono (by omega), HG.out⟩


def DrLg (R f : Nat) (w : World) (e : Ending) (w' : World) : Prop :=
  ∃ (l : List Entry) (B : Option Addr) (c : Nat), e = .returned (.slice B l.length c) ∧ l.length ≤ 17 ∧ Fm B l.length c ∧ Own w' w.heap.size 25 4 B l.length (flatEntry l) ∧ Rdr w' R f ∧ w.grownBy w' (some R)
theorem putV_len {l : List Entry} {e : Entry} (h : l.length ≤ 16) : (putV l e).1.length ≤ 16 := by
  unfold putV
  split
  · split
    · exact h
    · split
      · next hh => exact log_len hh
      · exact h
  · simp
set_option maxRecDepth 100000 in
set_option maxHeartbeats 4000000 in
theorem drLog (R f : Nat) (n : Int) (w : World) (hr : Rdr w R f) (hf : f ≤ 800000) (hn0 : 1 ≤ n) (hn : n ≤ 1000) :
    Calls Tryd.prog 34 #[.pointer (some ⟨R, 0, none⟩), .int .i64 n] w (DrLg R (f + 40) w) := by
  have HL := Lib.hid hr.lt
  have HR := Lib.hid hr; clear hr
  have HG := Lib.hid (gr_refl w R)
  obtain ⟨i0, hi0, hz0, hz1, hz2⟩ := info_parts info_Entry
  have HI := Lib.hid (And.intro hi0 (And.intro hz0 (And.intro hz1 hz2))); clear hi0 hz0 hz1 hz2
  go_enter Tryd.func34, Tryd.ntmps34
  have hown : (w.alloc (.cells #[] 25)).ownsRow w.heap.size 25 4 (.slice (some ⟨w.heap.size, 0, none⟩) 0 0) 0 (flatEntry []) := World.ownsRow_lit w #[] 0 (Nat.le_refl _) (Nat.zero_le _) rfl
  replace HR := Lib.hid (rdr_alloc HR.out (.cells #[] 25))
  replace HG := Lib.hid (gr_alloc HG.out (.cells #[] 25))
  have HW := Lib.hid hown; clear hown
  go_wp2_with fail
  refine (pickC R _ 9 _ HR.out (by omega) (by omega)).mono ?_
  rintro e w1 ⟨x1, rfl, hx1, hR, hg⟩
  replace HW := Lib.hid (row_dr HW.out hg HL.out)
  replace HR := Lib.hid hR
  replace HG := Lib.hid (HG.out.trans hg)
  clear hR hg
  go_wp2_with fail
  go_loopw [5, 6] (fun v i wr => ∃ (k : Nat) (acc : List Entry), k ≤ 8 ∧ i = .int .i64 k ∧ acc.length ≤ 16 ∧ (∃ B c', v = .slice B acc.length c' ∧ Hid (wr.ownsRow w.heap.size 25 4 (.slice B acc.length c') acc.length (flatEntry acc))) ∧ Hid (Rdr wr R (f + 1 + 4 * (8 - k))) ∧ Hid (w.grownBy wr (some R))) (fun _ i _ => (intOf i).toNat)
  case atStart => exact ⟨x1, [], by omega, rfl, by simp, ⟨_, _, rfl, HW.out⟩, Lib.hid (HR.out.mono (by omega)), HG⟩
  case round =>
    clear HR HG HW hx1
    obtain ⟨k, acc, hk, rfl, hacc, ⟨B, c', rfl, HW⟩, HR, HG⟩ := hrel
    by_cases hlt : 0 < k
    · have hk1 : ((k - 1 : Nat) : Int) = (k : Int) - 1 := by omega
      go_wp2_with fail
      refine (drEntry R _ _ HR.out (by omega)).mono ?_
      rintro e w2 ⟨t0, t1, t2, t3, rfl, hR, hg⟩
      replace HW := Lib.hid (row_dr HW.out hg HL.out)
      replace HR := Lib.hid hR
      replace HG := Lib.hid (HG.out.trans hg)
      clear hR hg
      go_wp2_with fail
      refine (specLP B acc.length c' acc t0 t1 t2 t3 _ rfl (by omega) (row_cap HW.out) (row_fm HW.out).2 (rd_of_row HW.out)).mono ?_
      rintro e w3 ⟨B2, d2, rfl, hr2, hbn⟩
      have hz2 := HG.out.size
      replace HW := Lib.hid (row_below HW.out hbn)
      replace HR := Lib.hid (HR.out.below hbn)
      replace HG := Lib.hid (HG.out.trans (grown_of_below hbn))
      have HW2 := Lib.hid (row_mono hr2 hz2)
      have hl2 := putV_len (e := ⟨t0, t1, t2, t3⟩) hacc
      clear hr2 hbn hz2
      generalize putV acc ⟨t0, t1, t2, t3⟩ = P at *
      obtain ⟨acc2, ok⟩ := P
      dsimp only at hl2 HW2 ⊢
      cases ok with
      | true =>
        go_wp2_with fail
        go_roundw
        case rel => exact ⟨k - 1, acc2, by omega, by rw [hk1], hl2, ⟨_, _, rfl, HW2⟩, Lib.hid (HR.out.mono (by omega)), HG⟩
        case measure => simp [intOf]; omega
      | false =>
        go_wp2_with fail
        go_roundw
        case rel => exact ⟨k - 1, acc, by omega, by rw [hk1], hacc, ⟨_, _, rfl, HW⟩, Lib.hid (HR.out.mono (by omega)), HG⟩
        case measure => simp [intOf]; omega
    · have hk0 : k = 0 := by omega
      subst hk0
      go_wp2_with fail
      refine (oddC R _ n _ HR.out (by omega) (by omega) (by omega)).mono ?_
      rintro e w3 ⟨bb, rfl, hR, hg⟩
      replace HW := Lib.hid (row_dr HW.out hg HL.out)
      replace HR := Lib.hid hR
      replace HG := Lib.hid (HG.out.trans hg)
      clear hR hg
      cases bb with
      | false =>
        go_wp2_with fail
        go_ret
        exact ⟨acc, B, c', rfl, by omega, row_fm HW.out, row_own HW.out, HR.out.mono (by omega), HG.out⟩
      | true =>
        go_wp2_with fail
        refine (pickC R _ 4 _ HR.out (by omega) (by omega)).mono ?_
        rintro e w4 ⟨p, rfl, hp, hR, hg⟩
        have hown := row_dr HW.out hg HL.out
        replace HR := Lib.hid (hR.mono (show _ ≤ f + 40 by omega))
        replace HG := Lib.hid (HG.out.trans hg)
        clear hR hg HW
        obtain rfl | rfl | rfl | rfl : p = 0 ∨ p = 1 ∨ p = 2 ∨ p = 3 := by omega
        · clear hp
          go_wp2_with (at_make; refine wpList_make_full _ rfl _ _ _ rfl w.heap.size 25 i0 _ 4 Tryd.underlying23 HI.out.1 HI.out.2.1 HI.out.2.2.1 .i64 .i64 17 17 17 rfl rfl rfl rfl (by rw [HI.out.2.2.2]; omega) (by unfold maxLen; omega) HG.out.size ?_; intro w5 hown5 hgr)
          go_ret
          refine ⟨List.replicate 17 Entry.zero, some ⟨w4.heap.size, 0, none⟩, 17, rfl, by simp, ⟨by simp, .inr ⟨_, rfl⟩⟩, ?_, HR.out.kept hgr (by simp), HG.out.andThen hgr (by simp)⟩
          have h5 := row_own hown5
          have e17 : (madeCells (Value.agg #[.int .i64 0, .int .i64 0, .int .i64 0, .int .i64 0]).cells (17 * 4)).toList = flatEntry (List.replicate 17 Entry.zero) := (by kernel_rfl)
          rw [e17] at h5
          simpa using h5
        · clear hp
          go_wp2_with (at_builtin; refine wpList_app1 w4 rfl _ _ _ rfl w.heap.size 25 i0 _ 4 32 Tryd.underlying23 HI.out rfl (by omega) (.slice B acc.length c') acc.length (flatEntry acc) rfl hown #[.int .i64 1000, .int .i64 0, .int .i64 9, .int .i64 0] rfl rfl (by simp [Value.oneCell']) (by omega) (by omega) HG.out.size ?_; intro v' w9 hown9 hg9)
          have HR9 := Lib.hid (rdr_row HR.out hown hg9 HL.out)
          have HG9 := Lib.hid (gr_row HG.out hown hg9 (Nat.le_refl _))
          obtain ⟨B9, d9, rfl, hr9⟩ := snocEntry (r := ⟨1000, 0, 9, 0⟩) hown9 rfl
          go_ret
          exact ⟨acc ++ [⟨1000, 0, 9, 0⟩], B9, d9, rfl, by simp; omega, row_fm hr9, row_own hr9, HR9.out, HG9.out⟩
        · clear hp
          go_wp2_with (at_builtin; refine wpList_app1 w4 rfl _ _ _ rfl w.heap.size 25 i0 _ 4 32 Tryd.underlying23 HI.out rfl (by omega) (.slice B acc.length c') acc.length (flatEntry acc) rfl hown #[.int .i64 900, .int .i64 10, .int .i64 9, .int .i64 0] rfl rfl (by simp [Value.oneCell']) (by omega) (by omega) HG.out.size ?_; intro v' w9 hown9 hg9)
          have HR9 := Lib.hid (rdr_row HR.out hown hg9 HL.out)
          have HG9 := Lib.hid (gr_row HG.out hown hg9 (Nat.le_refl _))
          obtain ⟨B9, d9, rfl, hr9⟩ := snocEntry (r := ⟨900, 10, 9, 0⟩) hown9 rfl
          go_ret
          exact ⟨acc ++ [⟨900, 10, 9, 0⟩], B9, d9, rfl, by simp; omega, row_fm hr9, row_own hr9, HR9.out, HG9.out⟩
        · clear hp
          have hlit : (w4.alloc (.cells #[.int .i64 20, .int .i64 0, .int .i64 50, .int .i64 0] 25)).ownsRow w4.heap.size 25 4 (.slice (some ⟨w4.heap.size, 0, none⟩) 1 1) 1 [.int .i64 20, .int .i64 0, .int .i64 50, .int .i64 0] := World.ownsRow_lit w4 #[.int .i64 20, .int .i64 0, .int .i64 50, .int .i64 0] 1 (Nat.le_refl _) (by unfold maxLen; omega) rfl
          have hrdo : Rd (w4.alloc (.cells #[.int .i64 20, .int .i64 0, .int .i64 50, .int .i64 0] 25)) B (flatEntry acc) := (rd_of_row hown).below (allocB (Below.refl _ _) _)
          have hnil := Lib.hid (row_none hown)
          have hlR := HR.out.lt
          go_wp2_with (at_builtin; refine wpList_appN _ rfl _ _ _ rfl w4.heap.size 25 i0 _ 4 32 Tryd.underlying23 HI.out rfl (by omega) _ 1 _ rfl hlit B acc.length c' (flatEntry acc) rfl (flatEntry_length _) hrdo hnil.out (flatE_one _) (by omega) (by omega) (by simp) ?_; intro v' w9 hown9 hg9)
          obtain ⟨B9, d9, rfl, hr9⟩ := row_is (n' := ((⟨20, 0, 50, 0⟩ : Entry) :: acc).length) (cs' := flatEntry ((⟨20, 0, 50, 0⟩ : Entry) :: acc)) hown9 (by simp; omega) (by simp [flatEntry, Entry.cells])
          have hb9 : Below w4.heap.size w4 w9 := grown_row (allocB (Below.refl _ _) _) rfl hlit hg9
          go_ret
          exact ⟨⟨20, 0, 50, 0⟩ :: acc, B9, d9, rfl, by simp; omega, row_fm hr9, (row_own hr9).mono HG.out.size, HR.out.below hb9, HG.out.trans (grown_of_below hb9)⟩
def DrLB (w : World) (e : Ending) (w' : World) : Prop :=
  ∃ (l : List Entry) (B : Option Addr) (c : Nat), e = .returned (.slice B l.length c) ∧ l.length ≤ 17 ∧ Fm B l.length c ∧ Own w' w.heap.size 25 4 B l.length (flatEntry l) ∧ Below w.heap.size w w'
set_option maxRecDepth 100000 in
set_option maxHeartbeats 1000000 in
theorem dDrawLogValid (A : Option Addr) (m c : Nat) (w : World) (hc : m ≤ c) (hm : m ≤ 1048576) (hA : RdB w A m) : Calls Tryd.prog 28 #[.slice A m c] w (DrLB w) := by
  have HB := Lib.hid hA; clear hA
  go_enter Tryd.func28, Tryd.ntmps28
  go_wp2_with fail
  refine (openC _ _ _ _ hc hm HB.out).mono ?_
  rintro e w1 ⟨rfl, hR, hbn⟩
  have HR := Lib.hid hR; clear hR
  have hz := hbn.size
  have HG := Lib.hid hbn; clear hbn
  obtain ⟨R, hRe⟩ : ∃ R, R = w.heap.size := ⟨_, rfl⟩
  rw [← hRe] at HR ⊢
  have hRw : w.heap.size ≤ R := by omega
  clear hRe HB
  go_wp2_with fail
  refine (drLog R 0 2 _ HR.out (by omega) (by omega) (by omega)).mono ?_
  rintro e w2 ⟨l, B, c2, rfl, hl, hF, ho, hR, hg⟩
  go_wp2_with fail
  go_ret
  exact ⟨l, B, c2, rfl, hl, hF, ho.mono hz, gr_below HG.out hg hRw⟩
set_option maxRecDepth 100000 in
set_option maxHeartbeats 1000000 in
theorem dDrawLogBetween (A : Option Addr) (m c : Nat) (w : World) (hc : m ≤ c) (hm : m ≤ 1048576) (hA : RdB w A m) : Calls Tryd.prog 30 #[.slice A m c] w fun e w' =>
    ∃ (l : List Entry) (B : Option Addr) (c y z : Nat), e = .returned (.tuple #[.slice B l.length c, .int .i64 y, .int .i64 z]) ∧ y ≤ 12 ∧ z ≤ 14 ∧ l.length ≤ 17 ∧ Fm B l.length c ∧ Own w' w.heap.size 25 4 B l.length (flatEntry l) ∧ Below w.heap.size w w' := by
  have HB := Lib.hid hA; clear hA
  go_enter Tryd.func30, Tryd.ntmps30
  go_wp2_with fail
  refine (openC _ _ _ _ hc hm HB.out).mono ?_
  rintro e w1 ⟨rfl, hR, hbn⟩
  have HR := Lib.hid hR; clear hR
  have hz := hbn.size
  have hlt : w.heap.size < w1.heap.size := HR.out.lt
  have HG := Lib.hid hbn; clear hbn
  obtain ⟨R, hRe⟩ : ∃ R, R = w.heap.size := ⟨_, rfl⟩
  rw [← hRe] at HR hlt ⊢
  have hRw : w.heap.size ≤ R := by omega
  clear hRe HB
  go_wp2_with fail
  refine (drLog R 0 9 _ HR.out (by omega) (by omega) (by omega)).mono ?_
  rintro e w2 ⟨l, B, c2, rfl, hl, hF, ho, hR, hg⟩
  replace HR := Lib.hid hR
  replace HG := Lib.hid (gr_below HG.out hg hRw)
  have HO := Lib.hid ho
  clear hR hg ho
  go_wp2_with fail
  refine (pickC R _ 12 _ HR.out (by omega) (by omega)).mono ?_
  rintro e w3 ⟨y, rfl, hy, hR, hg⟩
  replace HR := Lib.hid hR
  replace HG := Lib.hid (gr_below HG.out hg hRw)
  replace HO := Lib.hid (own_dr HO.out hg hlt)
  clear hR hg
  go_wp2_with fail
  refine (pickC R _ 14 _ HR.out (by omega) (by omega)).mono ?_
  rintro e w4 ⟨z, rfl, hz', hR, hg⟩
  replace HG := Lib.hid (gr_below HG.out hg hRw)
  replace HO := Lib.hid (own_dr HO.out hg hlt)
  clear hR hg
  go_wp2_with fail
  exact bodyPost_ret (v := .tuple #[.slice B l.length c2, .int .i64 y, .int .i64 z]) (by simp [results, Tryd.results30, go_sem]) rfl ⟨l, B, c2, y, z, rfl, by omega, by omega, hl, hF, HO.out.mono hz, HG.out⟩
end Go.Proofs.YtdlphgknplomkaaDoor
