/- Contracts of DrawStoreRun and DrawPeakOf. No statement is proved here. -/
import Derived.Test.YtjlbhpogmjjbiaaDoorDrB
import Derived.Deep.RegionHeld3
import Derived.IntWalk
namespace Go.Proofs.YtjlbhpogmjjbiaaDoor
open Go.RowKit

set_option maxHeartbeats 4000000 in
theorem dDrawStoreRun (A : Option Addr) (m c : Nat) (w : World) (hc : m ≤ c) (hm : m ≤ 1048576) (hA : RdB w A m) : Calls Tryd.prog 12 #[.slice A m c] w (DBatI 14 w) := by
  have HB := Lib.hid hA; clear hA
  have HG := Lib.hid (Below.refl w.heap.size w)
  go_enter Tryd.func12, Tryd.ntmps12
  have B_q := new_box w (.cells #[.int .i64 0, .int .i64 0, .int .i64 0] 24)
  have Z_q : w.heap.size ≤ w.heap.size := by have := HG.out.size; first | omega | (simp at this; omega) | (simp at this ⊢; omega)
  replace HG := Lib.hid (allocB HG.out (.cells #[.int .i64 0, .int .i64 0, .int .i64 0] 24))
  go_wp2_with fail
  refine (openC _ _ _ _ hc hm (rdb_below HB.out HG.out)).mono ?_
  rintro e w1 ⟨rfl, hR, hbn⟩
  have NR_q := blk_lt B_q.out
  replace B_q := be_box B_q hbn
  have HRw := HG.out.size
  replace HG := Lib.hid (seqB HG.out hbn)
  have HR := Lib.hid hR
  clear hbn hR HB
  generalize hRe : (w.alloc (.cells #[.int .i64 0, .int .i64 0, .int .i64 0] 24)).heap.size = R at HR HRw NR_q ⊢
  clear hRe
  go_wp2_with fail
  refine (drBattery R 0 9 _ HR.out (by omega) (by omega) (by omega)).mono ?_
  rintro e w2 ⟨s, r, l, rfl, hs, hr, hl, hR, hg⟩
  replace B_q := dr_box B_q hg (by omega)
  replace HR := Lib.hid hR
  replace HG := Lib.hid (gr_below HG.out hg HRw)
  clear hR hg
  have HL := Lib.hid (Nat.lt_of_lt_of_le HR.out.lt (Nat.le_refl _))
  have M0_q := blk_lt B_q.out
  replace B_q := al_box B_q (.cells #[.int .i64 s, .int .i64 r, .int .i64 l] 24)
  have HRl := HR.out.lt
  replace HR := Lib.hid (rdr_alloc HR.out (.cells #[.int .i64 s, .int .i64 r, .int .i64 l] 24))
  have B_b := new_box w2 (.cells #[.int .i64 s, .int .i64 r, .int .i64 l] 24)
  have Z_b : w.heap.size ≤ w2.heap.size := by have := HG.out.size; first | omega | (simp at this; omega) | (simp at this ⊢; omega)
  have N_b : R < w2.heap.size := HRl
  have M_q_b : w.heap.size < w2.heap.size := M0_q
  replace HG := Lib.hid (allocB HG.out (.cells #[.int .i64 s, .int .i64 r, .int .i64 l] 24))
  go_wp2_with fail
  refine (oddC R _ 20 _ HR.out (by omega) (by omega) (by omega)).mono ?_
  rintro e w3 ⟨bb, rfl, hR, hg⟩
  replace B_q := dr_box B_q hg (by omega)
  replace B_b := dr_box B_b hg (by omega)
  replace HR := Lib.hid hR
  replace HG := Lib.hid (gr_below HG.out hg HRw)
  clear hR hg
  clear M0_q
  cases bb with
  | false =>
    have c_b_0 : w3.cell? ⟨w2.heap.size, 0, none⟩ = some (.int .i64 s) := box_cell B_b 0
    have c_b_1 : w3.cell? ⟨w2.heap.size, 1, none⟩ = some (.int .i64 r) := box_cell B_b 1
    have c_b_2 : w3.cell? ⟨w2.heap.size, 2, none⟩ = some (.int .i64 l) := box_cell B_b 2
    obtain ⟨k0, k1, k2, k3, k4, k5⟩ := st3 B_q (.int .i64 s) (.int .i64 r)
    have M_q := blk_lt B_q.out; have M_b := blk_lt B_b.out; have M_R := HR.out.lt; have HB := HG.out
    have HS := Lib.hid (rdr3 (x := s) (y := r) (z := l) HR.out B_q (by omega))
    go_wp2_with fail
    go_region_held3 (fun W => W.cell? ⟨w2.heap.size, 0, none⟩ = some (.int .i64 s) ∧ W.cell? ⟨w2.heap.size, 1, none⟩ = some (.int .i64 r) ∧ W.cell? ⟨w2.heap.size, 2, none⟩ = some (.int .i64 l)) (first | go_keep | (go_split_ands; refine ⟨?_, ?_, ?_⟩ <;> go_keep) | (go_split_ands; refine ⟨?_, ?_, ?_⟩ <;> exact hgk.cell (by assumption) (by simp; omega)) | (go_split_ands; refine ⟨?_, ?_, ?_⟩ <;> exact far3 (by assumption) (by omega))) (first | (go_at_call 34; refine (pickC R _ 8 _ (by first | exact HR.out | exact HS.out) (by omega) (by omega)).mono ?_; rintro e wq ⟨x, rfl, hx, hRq, hgq⟩; have hgk := hgq; have hMq := hgq.size; (try (have B_q2 := dr_box' hgq (by omega) B_q; obtain ⟨j0, j1, j2, j3, j4, j5⟩ := st3 B_q2 (.int .i64 s) (.int .i64 r); have HS2 := Lib.hid (rdr3 (x := s) (y := r) (z := l) hRq B_q2 (by omega))))) | (go_at_call 33; refine (drPlan R _ s r l _ _ (by first | exact hRq | exact HS2.out) (by omega) hs hr hl (by omega)).mono ?_; rintro e wp ⟨xs, Bx, cx, rfl, hlx, hFx, hox, hRp, hgp⟩; clear hgk; have hgk := hgp; have hMp := hgp.size; (try (have B_q3 := dr_box' hgp (by omega) B_q2; obtain ⟨i0, i1, i2, i3, i4, i5⟩ := st3 B_q3 (.int .i64 s) (.int .i64 r)))))
    have hE : w3.drew.heap.size = w3.heap.size := rfl
    have BQ := box3 B_q3 (.int .i64 s) (.int .i64 r) (.int .i64 l)
    have c0 := box_cell BQ 0; have c1 := box_cell BQ 1; have c2 := box_cell BQ 2
    go_wp2_with fail
    exact bodyPost_ret (v := .tuple #[.agg #[.int .i64 s, .int .i64 r, .int .i64 l], .slice Bx xs.length cx]) (by simp [results, Tryd.results12, go_sem, c0, c1, c2]) rfl ⟨s, r, l, xs, Bx, cx, rfl, by omega, hFx, (own3 hox (by omega) _ _ _).mono (by omega), be3 (gr_below (gr_below (drew1B HB) hgq HRw) hgp HRw) (Nat.le_refl _) _ _ _⟩
  | true =>
    have c_b_0 : w3.cell? ⟨w2.heap.size, 0, none⟩ = some (.int .i64 s) := box_cell B_b 0
    have c_b_1 : w3.cell? ⟨w2.heap.size, 1, none⟩ = some (.int .i64 r) := box_cell B_b 1
    have c_b_2 : w3.cell? ⟨w2.heap.size, 2, none⟩ = some (.int .i64 l) := box_cell B_b 2
    obtain ⟨k0, k1, k2, k3, k4, k5⟩ := st3 B_q (.int .i64 s) (.int .i64 r)
    have M_q := blk_lt B_q.out; have M_b := blk_lt B_b.out; have M_R := HR.out.lt; have HB := HG.out
    have hmk : ∀ w : World, (Instr.makeSlice 29 (.int .i64 13) (.int .i64 13)).run Tryd.prog w = .ok (.slice (some ⟨w.heap.size, 0, none⟩) 13 13) (w.alloc (.cells #[.int .i64 0, .int .i64 0, .int .i64 0, .int .i64 0, .int .i64 0, .int .i64 0, .int .i64 0, .int .i64 0, .int .i64 0, .int .i64 0, .int .i64 0, .int .i64 0, .int .i64 0] 3)) := fun _ => by kernel_rfl
    have t0 : ((((w3.setCell ⟨w.heap.size, 0, none⟩ (.int .i64 s)).setCell ⟨w.heap.size, 1, none⟩ (.int .i64 r)).setCell ⟨w.heap.size, 2, none⟩ (.int .i64 l)).alloc (.cells #[.int .i64 0, .int .i64 0, .int .i64 0, .int .i64 0, .int .i64 0, .int .i64 0, .int .i64 0, .int .i64 0, .int .i64 0, .int .i64 0, .int .i64 0, .int .i64 0, .int .i64 0] 3)).cell? ⟨w2.heap.size, 0, none⟩ = some (.int .i64 s) := cell_keep (far3 c_b_0 (by omega)) (allocB (Below.refl _ _) _)
    have t1 : ((((w3.setCell ⟨w.heap.size, 0, none⟩ (.int .i64 s)).setCell ⟨w.heap.size, 1, none⟩ (.int .i64 r)).setCell ⟨w.heap.size, 2, none⟩ (.int .i64 l)).alloc (.cells #[.int .i64 0, .int .i64 0, .int .i64 0, .int .i64 0, .int .i64 0, .int .i64 0, .int .i64 0, .int .i64 0, .int .i64 0, .int .i64 0, .int .i64 0, .int .i64 0, .int .i64 0] 3)).cell? ⟨w2.heap.size, 1, none⟩ = some (.int .i64 r) := cell_keep (far3 c_b_1 (by omega)) (allocB (Below.refl _ _) _)
    have t2 : ((((w3.setCell ⟨w.heap.size, 0, none⟩ (.int .i64 s)).setCell ⟨w.heap.size, 1, none⟩ (.int .i64 r)).setCell ⟨w.heap.size, 2, none⟩ (.int .i64 l)).alloc (.cells #[.int .i64 0, .int .i64 0, .int .i64 0, .int .i64 0, .int .i64 0, .int .i64 0, .int .i64 0, .int .i64 0, .int .i64 0, .int .i64 0, .int .i64 0, .int .i64 0, .int .i64 0] 3)).cell? ⟨w2.heap.size, 2, none⟩ = some (.int .i64 l) := cell_keep (far3 c_b_2 (by omega)) (allocB (Below.refl _ _) _)
    have u0 : (((w3.setCell ⟨w.heap.size, 0, none⟩ (.int .i64 s)).setCell ⟨w.heap.size, 1, none⟩ (.int .i64 r)).setCell ⟨w.heap.size, 2, none⟩ (.int .i64 l)).cell? ⟨w2.heap.size, 0, none⟩ = some (.int .i64 s) := far3 c_b_0 (by omega)
    have u1 : (((w3.setCell ⟨w.heap.size, 0, none⟩ (.int .i64 s)).setCell ⟨w.heap.size, 1, none⟩ (.int .i64 r)).setCell ⟨w.heap.size, 2, none⟩ (.int .i64 l)).cell? ⟨w2.heap.size, 1, none⟩ = some (.int .i64 r) := far3 c_b_1 (by omega)
    have u2 : (((w3.setCell ⟨w.heap.size, 0, none⟩ (.int .i64 s)).setCell ⟨w.heap.size, 1, none⟩ (.int .i64 r)).setCell ⟨w.heap.size, 2, none⟩ (.int .i64 l)).cell? ⟨w2.heap.size, 2, none⟩ = some (.int .i64 l) := far3 c_b_2 (by omega)
    have BQ := al_box (box3 B_q (.int .i64 s) (.int .i64 r) (.int .i64 l)) (.cells #[.int .i64 0, .int .i64 0, .int .i64 0, .int .i64 0, .int .i64 0, .int .i64 0, .int .i64 0, .int .i64 0, .int .i64 0, .int .i64 0, .int .i64 0, .int .i64 0, .int .i64 0] 3)
    have OX : Hid (Own ((((w3.setCell ⟨w.heap.size, 0, none⟩ (.int .i64 s)).setCell ⟨w.heap.size, 1, none⟩ (.int .i64 r)).setCell ⟨w.heap.size, 2, none⟩ (.int .i64 l)).alloc (.cells #[.int .i64 0, .int .i64 0, .int .i64 0, .int .i64 0, .int .i64 0, .int .i64 0, .int .i64 0, .int .i64 0, .int .i64 0, .int .i64 0, .int .i64 0, .int .i64 0, .int .i64 0] 3)) w3.heap.size 3 1 (some ⟨w3.heap.size, 0, none⟩) 13 (ints (List.replicate 13 0))) := own_new (size3 _ _ _ _ _) 3 (ints (List.replicate 13 0)) 13 1 rfl
    have HF : Hid (Below w.heap.size w ((((w3.setCell ⟨w.heap.size, 0, none⟩ (.int .i64 s)).setCell ⟨w.heap.size, 1, none⟩ (.int .i64 r)).setCell ⟨w.heap.size, 2, none⟩ (.int .i64 l)).alloc (.cells #[.int .i64 0, .int .i64 0, .int .i64 0, .int .i64 0, .int .i64 0, .int .i64 0, .int .i64 0, .int .i64 0, .int .i64 0, .int .i64 0, .int .i64 0, .int .i64 0, .int .i64 0] 3))) := allocB (be3 HB (Nat.le_refl _) _ _ _) _
    go_wp2_with fail
    go_region_held3 (fun W => W.cell? ⟨w2.heap.size, 0, none⟩ = some (.int .i64 s) ∧ W.cell? ⟨w2.heap.size, 1, none⟩ = some (.int .i64 r) ∧ W.cell? ⟨w2.heap.size, 2, none⟩ = some (.int .i64 l)) (first | go_keep | (go_split_ands; refine ⟨?_, ?_, ?_⟩ <;> go_keep) | exact ⟨t0, t1, t2⟩ | exact ⟨u0, u1, u2⟩) (fail)
    all_goals (go_wp2_with fail; exact bodyPost_ret (v := .tuple #[.agg #[.int .i64 s, .int .i64 r, .int .i64 l], .slice (some ⟨w3.heap.size, 0, none⟩) 13 13]) (by simp [results, Tryd.results12, go_sem, box_cell BQ]) rfl ⟨s, r, l, List.replicate 13 0, some ⟨w3.heap.size, 0, none⟩, 13, rfl, by simp, ⟨by simp, .inr ⟨_, rfl⟩⟩, OX.out.mono (by omega), drew1B HF.out⟩)

theorem drPlanI (R f : Nat) (s r l h : Int) (w : World) (hr : Rdr w R f) (hf : f ≤ 900000) (hs : 0 ≤ s ∧ s ≤ 1000) (hrr : -1 ≤ r ∧ r ≤ 1000) (hll : 0 ≤ l ∧ l ≤ 1000) (h0 : 0 ≤ h) (h1 : h ≤ 14) :
    Calls Tryd.prog 33 #[.pointer (some ⟨R, 0, none⟩), .agg #[.int .i64 s, .int .i64 r, .int .i64 l], .int .i64 h] w (DrI 14 R (f + 28) w) := by
  obtain ⟨H, rfl⟩ := Int.eq_ofNat_of_zero_le h0
  exact drPlan R f s r l H w hr hf hs hrr hll (by omega)
/-- a battery and two lists of ints -/
def DBatII (w : World) (e : Ending) (w' : World) : Prop := ∃ (s r l : Int) (xs ys : List Int) (B C : Option Addr) (c d : Nat), e = .returned (.tuple #[.agg #[.int .i64 s, .int .i64 r, .int .i64 l], .slice B xs.length c, .slice C ys.length d]) ∧ xs.length ≤ 13 ∧ ys.length ≤ 14 ∧ Own w' w.heap.size 3 1 B xs.length (ints xs) ∧ Own w' w.heap.size 3 1 C ys.length (ints ys) ∧ Below w.heap.size w w'

set_option maxHeartbeats 4000000 in
theorem dDrawPeakOf (A : Option Addr) (m c : Nat) (w : World) (hc : m ≤ c) (hm : m ≤ 1048576) (hA : RdB w A m) : Calls Tryd.prog 16 #[.slice A m c] w (DBatII w) := by
  have HB := Lib.hid hA; clear hA
  have HG := Lib.hid (Below.refl w.heap.size w)
  go_enter Tryd.func16, Tryd.ntmps16
  have B_q := new_box w (.cells #[.int .i64 0, .int .i64 0, .int .i64 0] 24)
  have Z_q : w.heap.size ≤ w.heap.size := by have := HG.out.size; first | omega | (simp at this; omega) | (simp at this ⊢; omega)
  replace HG := Lib.hid (allocB HG.out (.cells #[.int .i64 0, .int .i64 0, .int .i64 0] 24))
  go_wp2_with fail
  refine (openC _ _ _ _ hc hm (rdb_below HB.out HG.out)).mono ?_
  rintro e w1 ⟨rfl, hR, hbn⟩
  have NR_q := blk_lt B_q.out
  replace B_q := be_box B_q hbn
  have HRw := HG.out.size
  replace HG := Lib.hid (seqB HG.out hbn)
  have HR := Lib.hid hR
  clear hbn hR HB
  generalize hRe : (w.alloc (.cells #[.int .i64 0, .int .i64 0, .int .i64 0] 24)).heap.size = R at HR HRw NR_q ⊢
  clear hRe
  go_wp2_with fail
  refine (drBattery R 0 9 _ HR.out (by omega) (by omega) (by omega)).mono ?_
  rintro e w2 ⟨s, r, l, rfl, hs, hr, hl, hR, hg⟩
  replace B_q := dr_box B_q hg (by omega)
  replace HR := Lib.hid hR
  replace HG := Lib.hid (gr_below HG.out hg HRw)
  clear hR hg
  have M0_q := blk_lt B_q.out
  replace B_q := al_box B_q (.cells #[.int .i64 s, .int .i64 r, .int .i64 l] 24)
  have HRl := HR.out.lt
  replace HR := Lib.hid (rdr_alloc HR.out (.cells #[.int .i64 s, .int .i64 r, .int .i64 l] 24))
  have B_b := new_box w2 (.cells #[.int .i64 s, .int .i64 r, .int .i64 l] 24)
  have Z_b : w.heap.size ≤ w2.heap.size := by have := HG.out.size; first | omega | (simp at this; omega) | (simp at this ⊢; omega)
  have N_b : R < w2.heap.size := HRl
  have M_q_b : w.heap.size < w2.heap.size := M0_q
  replace HG := Lib.hid (allocB HG.out (.cells #[.int .i64 s, .int .i64 r, .int .i64 l] 24))
  have hlR := HR.out.lt
  have hqR := blk_lt B_q.out
  have hz_xs := HG.out.size
  go_wp2_with fail
  refine (drLoads R _ 12 _ HR.out (by omega) (by omega) (by omega)).mono ?_
  rintro e w3 ⟨xs, Bxs, cxs, rfl, hl_xs, _, ho, hR, hg⟩
  replace B_q := dr_box B_q hg (by omega)
  replace B_b := dr_box B_b hg (by omega)
  replace HR := Lib.hid hR
  replace HG := Lib.hid (gr_below HG.out hg HRw)
  clear hR hg
  clear M0_q
  have c_b_0 : w3.cell? ⟨w2.heap.size, 0, none⟩ = some (.int .i64 s) := box_cell B_b 0
  have c_b_1 : w3.cell? ⟨w2.heap.size, 1, none⟩ = some (.int .i64 r) := box_cell B_b 1
  have c_b_2 : w3.cell? ⟨w2.heap.size, 2, none⟩ = some (.int .i64 l) := box_cell B_b 2
  obtain ⟨k0, k1, k2, k3, k4, k5⟩ := st3 B_q (.int .i64 s) (.int .i64 r)
  have M_q := blk_lt B_q.out; have M_b := blk_lt B_b.out; have M_R := HR.out.lt; have HB := HG.out
  have hE : w3.drew.heap.size = w3.heap.size := rfl
  have HO := Lib.hid ho; clear ho
  go_wp2_with fail
  go_region_held3 (fun W => W.cell? ⟨w2.heap.size, 0, none⟩ = some (.int .i64 s) ∧ W.cell? ⟨w2.heap.size, 1, none⟩ = some (.int .i64 r) ∧ W.cell? ⟨w2.heap.size, 2, none⟩ = some (.int .i64 l)) (first | go_keep | (go_split_ands; refine ⟨?_, ?_, ?_⟩ <;> go_keep) | (go_split_ands; refine ⟨?_, ?_, ?_⟩ <;> exact hgk.cell (by assumption) (by simp; omega)) | (go_split_ands; refine ⟨?_, ?_, ?_⟩ <;> exact far3 (by assumption) (by omega))) (first | (go_at_call 34; refine (pickC R _ 20 _ (by exact HR.out) (by omega) (by omega)).mono ?_; rintro e wq ⟨x, rfl, hx, hRq, hgq⟩; have hgk := hgq; have hMq := hgq.size; have B_q2 := dr_box' hgq (by omega) B_q; obtain ⟨j0, j1, j2, j3, j4, j5⟩ := st3 B_q2 (.int .i64 s) (.int .i64 r); have hq0 : (x : Int).tdiv 19 = (x : Int) / 19 := Int.tdiv_eq_ediv_of_nonneg (by omega); have wr0 : IntKind.i64.wrap ((x : Int) / 19) = (x : Int) / 19 := IntWalk.i64_in _ (by omega); have wr1 : IntKind.i64.wrap ((xs.length : Int) + (x : Int) / 19) = (xs.length : Int) + (x : Int) / 19 := IntWalk.i64_in _ (by omega)) | (go_at_call 33; refine (drPlanI R _ s r l _ _ (by exact hRq) (by omega) hs hr hl (by omega) (by omega)).mono ?_; rintro e wp ⟨ys, By, cy, rfl, hly, _, hoy, hRp, hgp⟩; clear hgk; have hgk := hgp; have hMp := hgp.size; have B_q3 := dr_box' hgp (by omega) B_q2; obtain ⟨i0, i1, i2, i3, i4, i5⟩ := st3 B_q3 (.int .i64 s) (.int .i64 r)))
  clear hq0 wr0 wr1
  have BQ := box3 B_q3 (.int .i64 s) (.int .i64 r) (.int .i64 l)
  have c0 := box_cell BQ 0; have c1 := box_cell BQ 1; have c2 := box_cell BQ 2
  go_wp2_with fail
  have HOx := own_dr (own_dr (show Own w3.drew _ _ _ _ _ _ from HO.out) hgq (by omega)) hgp (by omega)
  exact bodyPost_ret (v := .tuple #[.agg #[.int .i64 s, .int .i64 r, .int .i64 l], .slice Bxs xs.length cxs, .slice By ys.length cy]) (by simp [results, Tryd.results16, go_sem, c0, c1, c2]) rfl ⟨s, r, l, xs, ys, Bxs, By, cxs, cy, rfl, by omega, by omega, (own3 HOx (by simp; omega) _ _ _).mono (by simp; omega), (own3 hoy (by omega) _ _ _).mono (by omega), be3 (gr_below (gr_below (drew1B HB) hgq HRw) hgp HRw) (Nat.le_refl _) _ _ _⟩
end Go.Proofs.YtjlbhpogmjjbiaaDoor
