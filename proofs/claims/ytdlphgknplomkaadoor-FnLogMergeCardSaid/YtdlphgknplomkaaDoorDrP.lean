/- Contracts of DrawLogPut and DrawLogGaps, and of hasEntry. No statement is proved here. -/
import Derived.Test.YtdlphgknplomkaaDoorDrE2
import Derived.Test.YtdlphgknplomkaaDoorSmE
import Derived.Test.YtdlphgknplomkaaDoorLogI
import Derived.Deep.RegionLaw
namespace Go.Proofs.YtdlphgknplomkaaDoor
open Go.RowKit

def DLP (w : World) (e : Ending) (w' : World) : Prop :=
  ∃ (l : List Entry) (B : Option Addr) (c : Nat) (t u v x : Int), e = .returned (.tuple #[.slice B l.length c, .agg #[.int .i64 t, .int .i64 u, .int .i64 v, .int .i64 x]]) ∧ l.length ≤ 17 ∧ Fm B l.length c ∧ Own w' w.heap.size 25 4 B l.length (flatEntry l) ∧ Below w.heap.size w w'
theorem own_set_ne {w : World} {base n g j : Nat} {u : Value} {E : TypeId} {size : Nat} {A : Option Addr} {cs : List Value} (hown : Own w base E size A n cs) (hne : ∀ g', A = some ⟨g', 0, none⟩ → 0 < n → g' ≠ g) : Own (w.setCell ⟨g, j, none⟩ u) base E size A n cs := by
  refine ⟨hown.1, fun hn => ?_⟩
  obtain ⟨g', cur, e, hge, hgg, ht⟩ := hown.2 hn
  exact ⟨g', cur, e, hge, (Below.heap_setCell w ⟨g, j, none⟩ u g' (by have := hne g' e hn; simpa using this)).trans hgg, ht⟩
theorem own4 {w : World} {base n g : Nat} {E : TypeId} {size : Nat} {A : Option Addr} {cs : List Value} (h : Own w base E size A n cs) (hg : g < base) (x y z u : Value) : Own (set4 w g x y z u) base E size A n cs := own_set (own_set (own_set (own_set h hg) hg) hg) hg
set_option maxRecDepth 100000 in
set_option maxHeartbeats 4000000 in
theorem dDrawLogPut (A : Option Addr) (m c : Nat) (w : World) (hc : m ≤ c) (hm : m ≤ 1048576) (hA : RdB w A m) : Calls Tryd.prog 9 #[.slice A m c] w (DLP w) := by
  have HB := Lib.hid hA; clear hA
  have HG := Lib.hid (Below.refl w.heap.size w)
  go_enter Tryd.func9, Tryd.ntmps9
  have B_q := new_box w (.cells #[.int .i64 0, .int .i64 0, .int .i64 0, .int .i64 0] 25)
  replace HG := Lib.hid (allocB HG.out (.cells #[.int .i64 0, .int .i64 0, .int .i64 0, .int .i64 0] 25))
  go_wp2_with fail
  refine (openC _ _ _ _ hc hm (rdb_below HB.out HG.out)).mono ?_
  rintro e w1 ⟨rfl, hR, hbn⟩
  have hqR := blk_lt B_q.out
  replace B_q := be_box B_q hbn
  have hRw := HG.out.size
  replace HG := Lib.hid (seqB HG.out hbn)
  have HR := Lib.hid hR
  have hz : w.heap.size < w1.heap.size := Nat.lt_of_lt_of_le hqR hbn.size
  clear hbn hR HB
  have hlt : (w.alloc (.cells #[.int .i64 0, .int .i64 0, .int .i64 0, .int .i64 0] 25)).heap.size < w1.heap.size := HR.out.lt
  obtain ⟨R, hRe⟩ : ∃ R, R = (w.alloc (.cells #[.int .i64 0, .int .i64 0, .int .i64 0, .int .i64 0] 25)).heap.size := ⟨_, rfl⟩
  rw [← hRe] at HR hqR hRw hlt ⊢
  clear hRe
  generalize hq : w.heap.size = q at *
  go_wp2_with fail
  refine (drLog R 0 9 _ HR.out (by omega) (by omega) (by omega)).mono ?_
  rintro e w2 ⟨l, B, c2, rfl, hl, hF, ho, hR, hg⟩
  replace B_q := dr_box B_q hg (by omega)
  replace HR := Lib.hid hR
  replace HG := Lib.hid (gr_below (hq ▸ HG.out) hg (hq ▸ hRw))
  have hos := hg.size
  have HO := Lib.hid ho
  clear hR hg ho
  go_wp2_with fail
  refine (drEntry R _ _ HR.out (by omega)).mono ?_
  rintro e w3 ⟨a0, a1, a2, a3, rfl, hR, hg⟩
  replace B_q := dr_box B_q hg (by omega)
  replace HG := Lib.hid (gr_below HG.out hg (hq ▸ hRw))
  replace HO := Lib.hid (own_dr HO.out hg hlt)
  have hos2 := hg.size
  have HGB : Hid (∀ g', B = some ⟨g', 0, none⟩ → 0 < l.length → g' ≠ w3.heap.size) := fun g' e hn => by
    obtain ⟨g2, e2, _, h3⟩ := HO.out.form hn
    rw [e] at e2; cases e2; omega
  have HRl := hR.lt
  have B_a := new_box w3 (.cells #[.int .i64 a0, .int .i64 a1, .int .i64 a2, .int .i64 a3] 25)
  replace B_q := al_box B_q (.cells #[.int .i64 a0, .int .i64 a1, .int .i64 a2, .int .i64 a3] 25)
  replace HR := Lib.hid (rdr_alloc hR (.cells #[.int .i64 a0, .int .i64 a1, .int .i64 a2, .int .i64 a3] 25))
  replace HG := Lib.hid (allocB HG.out (.cells #[.int .i64 a0, .int .i64 a1, .int .i64 a2, .int .i64 a3] 25))
  replace HO := Lib.hid (HO.out.below (allocB (Below.refl _ _) (.cells #[.int .i64 a0, .int .i64 a1, .int .i64 a2, .int .i64 a3] 25)))
  have hqa : q < w3.heap.size := by omega
  have hRa : R < w3.heap.size := HRl
  clear hR hg HRl

  by_cases h0 : l.length = 0
  · have h0' : ¬ ((0 : Int) < (l.length : Int)) := by omega
    have h0'' : decide ((0 : Int) < (l.length : Int)) = false := by simpa using h0'
    go_wp2_with fail
    generalize w3.alloc (.cells #[.int .i64 a0, .int .i64 a1, .int .i64 a2, .int .i64 a3] 25) = W at *
    refine (oddC R _ 12 _ HR.out (by omega) (by omega) (by omega)).mono ?_
    rintro e w5 ⟨p5, rfl, hR, hg⟩
    replace B_q := dr_box B_q hg (by omega)
    replace B_a := dr_box B_a hg (by omega)
    replace HG := Lib.hid (gr_below HG.out hg (by omega))
    replace HO := Lib.hid (own_dr HO.out hg hlt)
    clear hR hg HR
    cases p5 with
    | true =>
      have k2 : w5.cell? ⟨w3.heap.size, 2, none⟩ = some (.int .i64 a2) := box_cell B_a 2
      have l2 : w5.frozen? ⟨w3.heap.size, 2, none⟩ = false := box_free B_a 2
      have ha3 : q ≤ w3.heap.size := by omega
      go_wp2_with fail
      replace B_q := st_box (g' := w3.heap.size) (j := 2) B_q (.int .i64 0) (by omega)
      replace B_a := st_same B_a 2 (.int .i64 0)
      replace HG := Lib.hid (be_set (g := w3.heap.size) (j := 2) (u := .int .i64 0) HG.out (by omega))
      replace HO := Lib.hid (own_set_ne HO.out (j := 2) (u := .int .i64 0) HGB.out)
      generalize w5.setCell ⟨w3.heap.size, 2, none⟩ (.int .i64 0) = w5b at *
      replace B_a : Hid (w5b.heap[w3.heap.size]? = some (.cells #[.int .i64 a0, .int .i64 a1, .int .i64 0, .int .i64 a3] 25 (0, 0))) := B_a
      clear k2 l2
      have b0 : w5b.cell? ⟨w3.heap.size, 0, none⟩ = some (.int .i64 a0) := box_cell B_a 0
      have b1 : w5b.cell? ⟨w3.heap.size, 1, none⟩ = some (.int .i64 a1) := box_cell B_a 1
      have b2 : w5b.cell? ⟨w3.heap.size, 2, none⟩ = some (.int .i64 0) := box_cell B_a 2
      have b3 : w5b.cell? ⟨w3.heap.size, 3, none⟩ = some (.int .i64 a3) := box_cell B_a 3
      have z0 : w5b.cell? ⟨q, 0, none⟩ = some (.int .i64 0) := box_cell B_q 0; have z1 : w5b.cell? ⟨q, 1, none⟩ = some (.int .i64 0) := box_cell B_q 1; have z2 : w5b.cell? ⟨q, 2, none⟩ = some (.int .i64 0) := box_cell B_q 2; have z3 : w5b.cell? ⟨q, 3, none⟩ = some (.int .i64 0) := box_cell B_q 3
      have y0 : w5b.frozen? ⟨q, 0, none⟩ = false := box_free B_q 0; have y1 : w5b.frozen? ⟨q, 1, none⟩ = false := box_free B_q 1; have y2 : w5b.frozen? ⟨q, 2, none⟩ = false := box_free B_q 2; have y3 : w5b.frozen? ⟨q, 3, none⟩ = false := box_free B_q 3
      have s01 : ∀ (W : World) (u : Value), (W.setCell ⟨q, 0, none⟩ u).cell? ⟨q, 1, none⟩ = W.cell? ⟨q, 1, none⟩ := same_cell (by decide)
      have s02 : ∀ (W : World) (u : Value), (W.setCell ⟨q, 0, none⟩ u).cell? ⟨q, 2, none⟩ = W.cell? ⟨q, 2, none⟩ := same_cell (by decide)
      have s03 : ∀ (W : World) (u : Value), (W.setCell ⟨q, 0, none⟩ u).cell? ⟨q, 3, none⟩ = W.cell? ⟨q, 3, none⟩ := same_cell (by decide)
      have s12 : ∀ (W : World) (u : Value), (W.setCell ⟨q, 1, none⟩ u).cell? ⟨q, 2, none⟩ = W.cell? ⟨q, 2, none⟩ := same_cell (by decide)
      have s13 : ∀ (W : World) (u : Value), (W.setCell ⟨q, 1, none⟩ u).cell? ⟨q, 3, none⟩ = W.cell? ⟨q, 3, none⟩ := same_cell (by decide)
      have s23 : ∀ (W : World) (u : Value), (W.setCell ⟨q, 2, none⟩ u).cell? ⟨q, 3, none⟩ = W.cell? ⟨q, 3, none⟩ := same_cell (by decide)
      have HQ := box4 B_q (.int .i64 a0) (.int .i64 a1) (.int .i64 0) (.int .i64 a3)
      have HE := Lib.hid (be4 HG.out (by omega : w.heap.size ≤ q) (.int .i64 a0) (.int .i64 a1) (.int .i64 0) (.int .i64 a3))
      have HN := Lib.hid ((own4 HO.out hz (.int .i64 a0) (.int .i64 a1) (.int .i64 0) (.int .i64 a3)).mono (by omega : w.heap.size ≤ w1.heap.size))
      go_region_law (fail)
      go_wp2_with fail
      exact bodyPost_ret (v := .tuple #[.slice B l.length c2, .agg #[.int .i64 a0, .int .i64 a1, .int .i64 0, .int .i64 a3]]) (by simp [results, Tryd.results9, go_sem, box_cell HQ 0, box_cell HQ 1, box_cell HQ 2, box_cell HQ 3] <;> omega) rfl ⟨l, B, c2, _, _, _, _, rfl, hl, hF, HN.out, drew1B HE.out⟩
    | false =>
      go_wp2_with fail
      have b0 : w5.cell? ⟨w3.heap.size, 0, none⟩ = some (.int .i64 a0) := box_cell B_a 0
      have b1 : w5.cell? ⟨w3.heap.size, 1, none⟩ = some (.int .i64 a1) := box_cell B_a 1
      have b2 : w5.cell? ⟨w3.heap.size, 2, none⟩ = some (.int .i64 a2) := box_cell B_a 2
      have b3 : w5.cell? ⟨w3.heap.size, 3, none⟩ = some (.int .i64 a3) := box_cell B_a 3
      have z0 : w5.cell? ⟨q, 0, none⟩ = some (.int .i64 0) := box_cell B_q 0; have z1 : w5.cell? ⟨q, 1, none⟩ = some (.int .i64 0) := box_cell B_q 1; have z2 : w5.cell? ⟨q, 2, none⟩ = some (.int .i64 0) := box_cell B_q 2; have z3 : w5.cell? ⟨q, 3, none⟩ = some (.int .i64 0) := box_cell B_q 3
      have y0 : w5.frozen? ⟨q, 0, none⟩ = false := box_free B_q 0; have y1 : w5.frozen? ⟨q, 1, none⟩ = false := box_free B_q 1; have y2 : w5.frozen? ⟨q, 2, none⟩ = false := box_free B_q 2; have y3 : w5.frozen? ⟨q, 3, none⟩ = false := box_free B_q 3
      have s01 : ∀ (W : World) (u : Value), (W.setCell ⟨q, 0, none⟩ u).cell? ⟨q, 1, none⟩ = W.cell? ⟨q, 1, none⟩ := same_cell (by decide)
      have s02 : ∀ (W : World) (u : Value), (W.setCell ⟨q, 0, none⟩ u).cell? ⟨q, 2, none⟩ = W.cell? ⟨q, 2, none⟩ := same_cell (by decide)
      have s03 : ∀ (W : World) (u : Value), (W.setCell ⟨q, 0, none⟩ u).cell? ⟨q, 3, none⟩ = W.cell? ⟨q, 3, none⟩ := same_cell (by decide)
      have s12 : ∀ (W : World) (u : Value), (W.setCell ⟨q, 1, none⟩ u).cell? ⟨q, 2, none⟩ = W.cell? ⟨q, 2, none⟩ := same_cell (by decide)
      have s13 : ∀ (W : World) (u : Value), (W.setCell ⟨q, 1, none⟩ u).cell? ⟨q, 3, none⟩ = W.cell? ⟨q, 3, none⟩ := same_cell (by decide)
      have s23 : ∀ (W : World) (u : Value), (W.setCell ⟨q, 2, none⟩ u).cell? ⟨q, 3, none⟩ = W.cell? ⟨q, 3, none⟩ := same_cell (by decide)
      have HQ := box4 B_q (.int .i64 a0) (.int .i64 a1) (.int .i64 a2) (.int .i64 a3)
      have HE := Lib.hid (be4 HG.out (by omega : w.heap.size ≤ q) (.int .i64 a0) (.int .i64 a1) (.int .i64 a2) (.int .i64 a3))
      have HN := Lib.hid ((own4 HO.out hz (.int .i64 a0) (.int .i64 a1) (.int .i64 a2) (.int .i64 a3)).mono (by omega : w.heap.size ≤ w1.heap.size))
      go_region_law (fail)
      go_wp2_with fail
      exact bodyPost_ret (v := .tuple #[.slice B l.length c2, .agg #[.int .i64 a0, .int .i64 a1, .int .i64 a2, .int .i64 a3]]) (by simp [results, Tryd.results9, go_sem, box_cell HQ 0, box_cell HQ 1, box_cell HQ 2, box_cell HQ 3] <;> omega) rfl ⟨l, B, c2, _, _, _, _, rfl, hl, hF, HN.out, drew1B HE.out⟩
  · have h0' : (0 : Int) < (l.length : Int) := by omega
    have h0'' : decide ((0 : Int) < (l.length : Int)) = true := by simpa using h0'
    go_wp2_with fail
    generalize w3.alloc (.cells #[.int .i64 a0, .int .i64 a1, .int .i64 a2, .int .i64 a3] 25) = W at *
    refine (pickC R _ 4 _ HR.out (by omega) (by omega)).mono ?_
    rintro e w6 ⟨p, rfl, hx, hR, hg⟩
    replace B_q := dr_box B_q hg (by omega)
    replace B_a := dr_box B_a hg (by omega)
    replace HG := Lib.hid (gr_below HG.out hg (by omega))
    replace HO := Lib.hid (own_dr HO.out hg hlt)
    replace HR := Lib.hid hR
    clear hR hg hx
    cases e0 : ((p : Int) == 0) with
    | false =>
      go_wp2_with fail
      refine (oddC R _ 12 _ HR.out (by omega) (by omega) (by omega)).mono ?_
      rintro e w7 ⟨p7, rfl, hR, hg⟩
      replace B_q := dr_box B_q hg (by omega)
      replace B_a := dr_box B_a hg (by omega)
      replace HG := Lib.hid (gr_below HG.out hg (by omega))
      replace HO := Lib.hid (own_dr HO.out hg hlt)
      clear hR hg HR
      cases p7 with
      | true =>
        have k2 : w7.cell? ⟨w3.heap.size, 2, none⟩ = some (.int .i64 a2) := box_cell B_a 2
        have l2 : w7.frozen? ⟨w3.heap.size, 2, none⟩ = false := box_free B_a 2
        have ha3 : q ≤ w3.heap.size := by omega
        go_wp2_with fail
        replace B_q := st_box (g' := w3.heap.size) (j := 2) B_q (.int .i64 0) (by omega)
        replace B_a := st_same B_a 2 (.int .i64 0)
        replace HG := Lib.hid (be_set (g := w3.heap.size) (j := 2) (u := .int .i64 0) HG.out (by omega))
        replace HO := Lib.hid (own_set_ne HO.out (j := 2) (u := .int .i64 0) HGB.out)
        generalize w7.setCell ⟨w3.heap.size, 2, none⟩ (.int .i64 0) = w7b at *
        replace B_a : Hid (w7b.heap[w3.heap.size]? = some (.cells #[.int .i64 a0, .int .i64 a1, .int .i64 0, .int .i64 a3] 25 (0, 0))) := B_a
        clear k2 l2
        have b0 : w7b.cell? ⟨w3.heap.size, 0, none⟩ = some (.int .i64 a0) := box_cell B_a 0
        have b1 : w7b.cell? ⟨w3.heap.size, 1, none⟩ = some (.int .i64 a1) := box_cell B_a 1
        have b2 : w7b.cell? ⟨w3.heap.size, 2, none⟩ = some (.int .i64 0) := box_cell B_a 2
        have b3 : w7b.cell? ⟨w3.heap.size, 3, none⟩ = some (.int .i64 a3) := box_cell B_a 3
        have z0 : w7b.cell? ⟨q, 0, none⟩ = some (.int .i64 0) := box_cell B_q 0; have z1 : w7b.cell? ⟨q, 1, none⟩ = some (.int .i64 0) := box_cell B_q 1; have z2 : w7b.cell? ⟨q, 2, none⟩ = some (.int .i64 0) := box_cell B_q 2; have z3 : w7b.cell? ⟨q, 3, none⟩ = some (.int .i64 0) := box_cell B_q 3
        have y0 : w7b.frozen? ⟨q, 0, none⟩ = false := box_free B_q 0; have y1 : w7b.frozen? ⟨q, 1, none⟩ = false := box_free B_q 1; have y2 : w7b.frozen? ⟨q, 2, none⟩ = false := box_free B_q 2; have y3 : w7b.frozen? ⟨q, 3, none⟩ = false := box_free B_q 3
        have s01 : ∀ (W : World) (u : Value), (W.setCell ⟨q, 0, none⟩ u).cell? ⟨q, 1, none⟩ = W.cell? ⟨q, 1, none⟩ := same_cell (by decide)
        have s02 : ∀ (W : World) (u : Value), (W.setCell ⟨q, 0, none⟩ u).cell? ⟨q, 2, none⟩ = W.cell? ⟨q, 2, none⟩ := same_cell (by decide)
        have s03 : ∀ (W : World) (u : Value), (W.setCell ⟨q, 0, none⟩ u).cell? ⟨q, 3, none⟩ = W.cell? ⟨q, 3, none⟩ := same_cell (by decide)
        have s12 : ∀ (W : World) (u : Value), (W.setCell ⟨q, 1, none⟩ u).cell? ⟨q, 2, none⟩ = W.cell? ⟨q, 2, none⟩ := same_cell (by decide)
        have s13 : ∀ (W : World) (u : Value), (W.setCell ⟨q, 1, none⟩ u).cell? ⟨q, 3, none⟩ = W.cell? ⟨q, 3, none⟩ := same_cell (by decide)
        have s23 : ∀ (W : World) (u : Value), (W.setCell ⟨q, 2, none⟩ u).cell? ⟨q, 3, none⟩ = W.cell? ⟨q, 3, none⟩ := same_cell (by decide)
        have HQ := box4 B_q (.int .i64 a0) (.int .i64 a1) (.int .i64 0) (.int .i64 a3)
        have HE := Lib.hid (be4 HG.out (by omega : w.heap.size ≤ q) (.int .i64 a0) (.int .i64 a1) (.int .i64 0) (.int .i64 a3))
        have HN := Lib.hid ((own4 HO.out hz (.int .i64 a0) (.int .i64 a1) (.int .i64 0) (.int .i64 a3)).mono (by omega : w.heap.size ≤ w1.heap.size))
        go_region_law (fail)
        go_wp2_with fail
        exact bodyPost_ret (v := .tuple #[.slice B l.length c2, .agg #[.int .i64 a0, .int .i64 a1, .int .i64 0, .int .i64 a3]]) (by simp [results, Tryd.results9, go_sem, box_cell HQ 0, box_cell HQ 1, box_cell HQ 2, box_cell HQ 3] <;> omega) rfl ⟨l, B, c2, _, _, _, _, rfl, hl, hF, HN.out, drew1B HE.out⟩
      | false =>
        go_wp2_with fail
        have b0 : w7.cell? ⟨w3.heap.size, 0, none⟩ = some (.int .i64 a0) := box_cell B_a 0
        have b1 : w7.cell? ⟨w3.heap.size, 1, none⟩ = some (.int .i64 a1) := box_cell B_a 1
        have b2 : w7.cell? ⟨w3.heap.size, 2, none⟩ = some (.int .i64 a2) := box_cell B_a 2
        have b3 : w7.cell? ⟨w3.heap.size, 3, none⟩ = some (.int .i64 a3) := box_cell B_a 3
        have z0 : w7.cell? ⟨q, 0, none⟩ = some (.int .i64 0) := box_cell B_q 0; have z1 : w7.cell? ⟨q, 1, none⟩ = some (.int .i64 0) := box_cell B_q 1; have z2 : w7.cell? ⟨q, 2, none⟩ = some (.int .i64 0) := box_cell B_q 2; have z3 : w7.cell? ⟨q, 3, none⟩ = some (.int .i64 0) := box_cell B_q 3
        have y0 : w7.frozen? ⟨q, 0, none⟩ = false := box_free B_q 0; have y1 : w7.frozen? ⟨q, 1, none⟩ = false := box_free B_q 1; have y2 : w7.frozen? ⟨q, 2, none⟩ = false := box_free B_q 2; have y3 : w7.frozen? ⟨q, 3, none⟩ = false := box_free B_q 3
        have s01 : ∀ (W : World) (u : Value), (W.setCell ⟨q, 0, none⟩ u).cell? ⟨q, 1, none⟩ = W.cell? ⟨q, 1, none⟩ := same_cell (by decide)
        have s02 : ∀ (W : World) (u : Value), (W.setCell ⟨q, 0, none⟩ u).cell? ⟨q, 2, none⟩ = W.cell? ⟨q, 2, none⟩ := same_cell (by decide)
        have s03 : ∀ (W : World) (u : Value), (W.setCell ⟨q, 0, none⟩ u).cell? ⟨q, 3, none⟩ = W.cell? ⟨q, 3, none⟩ := same_cell (by decide)
        have s12 : ∀ (W : World) (u : Value), (W.setCell ⟨q, 1, none⟩ u).cell? ⟨q, 2, none⟩ = W.cell? ⟨q, 2, none⟩ := same_cell (by decide)
        have s13 : ∀ (W : World) (u : Value), (W.setCell ⟨q, 1, none⟩ u).cell? ⟨q, 3, none⟩ = W.cell? ⟨q, 3, none⟩ := same_cell (by decide)
        have s23 : ∀ (W : World) (u : Value), (W.setCell ⟨q, 2, none⟩ u).cell? ⟨q, 3, none⟩ = W.cell? ⟨q, 3, none⟩ := same_cell (by decide)
        have HQ := box4 B_q (.int .i64 a0) (.int .i64 a1) (.int .i64 a2) (.int .i64 a3)
        have HE := Lib.hid (be4 HG.out (by omega : w.heap.size ≤ q) (.int .i64 a0) (.int .i64 a1) (.int .i64 a2) (.int .i64 a3))
        have HN := Lib.hid ((own4 HO.out hz (.int .i64 a0) (.int .i64 a1) (.int .i64 a2) (.int .i64 a3)).mono (by omega : w.heap.size ≤ w1.heap.size))
        go_region_law (fail)
        go_wp2_with fail
        exact bodyPost_ret (v := .tuple #[.slice B l.length c2, .agg #[.int .i64 a0, .int .i64 a1, .int .i64 a2, .int .i64 a3]]) (by simp [results, Tryd.results9, go_sem, box_cell HQ 0, box_cell HQ 1, box_cell HQ 2, box_cell HQ 3] <;> omega) rfl ⟨l, B, c2, _, _, _, _, rfl, hl, hF, HN.out, drew1B HE.out⟩
    | true =>
      go_wp2_with fail
      obtain ⟨g, rfl, hgw, hgl⟩ := HO.out.form (by omega)
      have HDN : Hid (Calls Tryd.prog 36 #[.pointer (some ⟨R, 0, none⟩), .int .i64 (l.length : Int)] w6.drew (Picked R (0 + 40 + 4 + 1) (l.length : Int) w6.drew)) := pickC R _ (l.length : Int) w6.drew (HR.out.below (drew1B (Below.refl _ _))) (by omega) (by omega)
      have s01 : ∀ (W : World) (u : Value), (W.setCell ⟨q, 0, none⟩ u).cell? ⟨q, 1, none⟩ = W.cell? ⟨q, 1, none⟩ := same_cell (by decide)
      have s02 : ∀ (W : World) (u : Value), (W.setCell ⟨q, 0, none⟩ u).cell? ⟨q, 2, none⟩ = W.cell? ⟨q, 2, none⟩ := same_cell (by decide)
      have s03 : ∀ (W : World) (u : Value), (W.setCell ⟨q, 0, none⟩ u).cell? ⟨q, 3, none⟩ = W.cell? ⟨q, 3, none⟩ := same_cell (by decide)
      have s12 : ∀ (W : World) (u : Value), (W.setCell ⟨q, 1, none⟩ u).cell? ⟨q, 2, none⟩ = W.cell? ⟨q, 2, none⟩ := same_cell (by decide)
      have s13 : ∀ (W : World) (u : Value), (W.setCell ⟨q, 1, none⟩ u).cell? ⟨q, 3, none⟩ = W.cell? ⟨q, 3, none⟩ := same_cell (by decide)
      have s23 : ∀ (W : World) (u : Value), (W.setCell ⟨q, 2, none⟩ u).cell? ⟨q, 3, none⟩ = W.cell? ⟨q, 3, none⟩ := same_cell (by decide)
      go_region_law (first | (go_simp; go_at_call 36; refine Calls.mono (by with_reducible exact HDN.out) ?_; rintro e w8 ⟨k, rfl, hx, hR, hg⟩; have hk : k < l.length := (by omega); have B_q8 := dr_box (w := w6.drew) B_q hg (by omega); have HG8 := Lib.hid (gr_below (drew1B HG.out) hg (by omega)); have HO8 := Lib.hid (own_dr (w := w6.drew) HO.out hg hlt); obtain ⟨b, o, eb, hbl, hc0, hc1, hc2, hc3⟩ := (HO8.out.rd).atEntry (k := k) hk; cases eb; rw [Nat.zero_add] at hc0 hc1 hc2 hc3; generalize l.getD k Entry.zero = r at *; obtain ⟨r0, r1, r2, r3⟩ := r; dsimp only at hc0 hc1 hc2 hc3; have hk0 : (0 : Int) ≤ (k : Int) := (by omega); have hk1 : (k : Int) < (l.length : Int) := (by omega); have z0 : w8.cell? ⟨q, 0, none⟩ = some (.int .i64 0) := box_cell B_q8 0; have z1 : w8.cell? ⟨q, 1, none⟩ = some (.int .i64 0) := box_cell B_q8 1; have z2 : w8.cell? ⟨q, 2, none⟩ = some (.int .i64 0) := box_cell B_q8 2; have z3 : w8.cell? ⟨q, 3, none⟩ = some (.int .i64 0) := box_cell B_q8 3; have y0 : w8.frozen? ⟨q, 0, none⟩ = false := box_free B_q8 0; have y1 : w8.frozen? ⟨q, 1, none⟩ = false := box_free B_q8 1; have y2 : w8.frozen? ⟨q, 2, none⟩ = false := box_free B_q8 2; have y3 : w8.frozen? ⟨q, 3, none⟩ = false := box_free B_q8 3; have HQ := box4 B_q8 (.int .i64 r0) (.int .i64 r1) (.int .i64 r2) (.int .i64 r3); have HE := Lib.hid (be4 HG8.out (by omega : w.heap.size ≤ q) (.int .i64 r0) (.int .i64 r1) (.int .i64 r2) (.int .i64 r3)); have HN := Lib.hid ((own4 HO8.out hz (.int .i64 r0) (.int .i64 r1) (.int .i64 r2) (.int .i64 r3)).mono (by omega : w.heap.size ≤ w1.heap.size)); clear hx hR hg HDN))
      all_goals go_wp2_with fail
      exact bodyPost_ret (v := .tuple #[.slice (some ⟨g, 0, none⟩) l.length c2, .agg #[.int .i64 r0, .int .i64 r1, .int .i64 r2, .int .i64 r3]]) (by simp [results, Tryd.results9, go_sem, box_cell HQ 0, box_cell HQ 1, box_cell HQ 2, box_cell HQ 3]) rfl ⟨l, some ⟨g, 0, none⟩, c2, _, _, _, _, rfl, hl, hF, HN.out, HE.out⟩
set_option maxRecDepth 100000 in
set_option maxHeartbeats 1000000 in
theorem dDrawLogGaps (A : Option Addr) (m c : Nat) (w : World) (hc : m ≤ c) (hm : m ≤ 1048576) (hA : RdB w A m) : Calls Tryd.prog 16 #[.slice A m c] w fun e w' =>
    ∃ (l : List Entry) (B : Option Addr) (c y : Nat), e = .returned (.tuple #[.slice B l.length c, .int .i64 y]) ∧ y ≤ 3 ∧ l.length ≤ 17 ∧ Fm B l.length c ∧ Own w' w.heap.size 25 4 B l.length (flatEntry l) ∧ Below w.heap.size w w' := by
  have HB := Lib.hid hA; clear hA
  go_enter Tryd.func16, Tryd.ntmps16
  go_wp2_with fail
  refine (openC _ _ _ _ hc hm HB.out).mono ?_
  rintro e w1 ⟨rfl, hR, hbn⟩
  have HR := Lib.hid hR; clear hR
  have hz := hbn.size
  have hlt : w.heap.size < w1.heap.size := HR.out.lt
  have HG := Lib.hid hbn; clear hbn
  obtain ⟨R, hRe⟩ : ∃ R, R = w.heap.size := ⟨_, rfl⟩
  rw [← hRe] at HR hlt ⊢
  have hRw : w.heap.size ≤ R := by omega
  clear hRe HB
  go_wp2_with fail
  refine (drLog R 0 9 _ HR.out (by omega) (by omega) (by omega)).mono ?_
  rintro e w2 ⟨l, B, c2, rfl, hl, hF, ho, hR, hg⟩
  replace HR := Lib.hid hR
  replace HG := Lib.hid (gr_below HG.out hg hRw)
  have HO := Lib.hid ho
  clear hR hg ho
  go_wp2_with fail
  refine (pickC R _ 4 _ HR.out (by omega) (by omega)).mono ?_
  rintro e w3 ⟨y, rfl, hy, hR, hg⟩
  replace HG := Lib.hid (gr_below HG.out hg hRw)
  replace HO := Lib.hid (own_dr HO.out hg hlt)
  clear hR hg
  go_wp2_with fail
  exact bodyPost_ret (v := .tuple #[.slice B l.length c2, .int .i64 y]) (by simp [results, Tryd.results16, go_sem]) rfl ⟨l, B, c2, y, rfl, by omega, hl, hF, HO.out.mono hz, HG.out⟩
set_option maxHeartbeats 400000 in
theorem sameNo (A B : Option Addr) (n k c d : Nat) (w : World) (hne : n ≠ k) :
    Calls Tryd.prog 12 #[.slice A n c, .slice B k d] w fun e w' => e = .returned (.bool false) ∧ ∃ q, w' = w.drewN q := by
  have h1 : ((n : Int) != (k : Int)) = true := by simp; omega
  go_enter Tryd.func12, Tryd.ntmps12
  go_wp2_with fail
  go_ret
  exact ⟨rfl, 0, rfl⟩
set_option maxHeartbeats 2000000 in
theorem hasEC (A : Option Addr) (n c : Nat) (l : List Entry) (t u v x : Int) (rb : Bool) (w : World) (hn : l.length = n) (hm : n ≤ 1048576) (hr : l.any (eqE ⟨t, u, v, x⟩) = rb) (hA : Rd w A (flatEntry l)) :
    Calls Tryd.prog 14 #[.slice A n c, .agg #[.int .i64 t, .int .i64 u, .int .i64 v, .int .i64 x]] w fun e w' => e = .returned (.bool rb) ∧ Below w.heap.size w w' := by
  have hb : Below w.heap.size w (w.alloc (.cells #[.int .i64 t, .int .i64 u, .int .i64 v, .int .i64 x] 25)) := allocB (Below.refl _ _) _
  have HA := Lib.hid (hA.below hb); clear hA
  have HN := Lib.hid hn; clear hn
  have HRR := Lib.hid hr; clear hr
  have BE := newboxL w (.cells #[.int .i64 t, .int .i64 u, .int .i64 v, .int .i64 x] 25)
  go_enter Tryd.func14, Tryd.ntmps14
  go_wp2_with fail
  go_loopw [5] (fun i wr => ∃ k : Nat, k ≤ n ∧ i = .int .i64 k ∧ Hid (∀ j, j < k → eqE ⟨t, u, v, x⟩ (eAt l j) = false) ∧ ∃ q, wr = (w.alloc (.cells #[.int .i64 t, .int .i64 u, .int .i64 v, .int .i64 x] 25)).drewN q) (fun i _ => n - (intOf i).toNat)
  case atStart => exact ⟨0, by omega, rfl, fun j hj => absurd hj (by omega), 0, rfl⟩
  case round =>
    obtain ⟨k, hk, rfl, hp, q, rfl⟩ := hrel
    by_cases hlt : k < n
    · obtain ⟨b, o, rfl, _, hc0, hc1, hc2, hc3⟩ := HA.out.atEntry (k := k) (by have := HN.out; omega)
      have e0 := boxcellL BE 0; have e1 := boxcellL BE 1; have e2 := boxcellL BE 2; have e3 := boxcellL BE 3
      simp at e0 e1 e2 e3
      have HGK : Hid (eAt l k = l.getD k Entry.zero) := rfl
      have HKL : Hid (k < l.length) := by rw [Hid, HN.out]; exact hlt
      generalize l.getD k Entry.zero = r at *
      obtain ⟨r0, r1, r2, r3⟩ := r
      dsimp only at hc0 hc1 hc2 hc3
      have hki : (k : Int) < (n : Int) := by omega
      have hk0 : (0 : Int) ≤ (k : Int) := by omega
      by_cases h0 : r0 = t
      rotate_left
      · have h0' : ¬ t = r0 := fun e => h0 e.symm
        have hbb : eqE ⟨t, u, v, x⟩ ⟨r0, r1, r2, r3⟩ = false := by simp [eqE, h0']
        go_wp2_with fail
        go_quiet (fail)
        go_wp2_with fail
        have HNX : Hid (∀ j, j < k + 1 → eqE ⟨t, u, v, x⟩ (eAt l j) = false) := fun j hj => by
          rcases Nat.lt_or_ge j k with h | h
          · exact hp.out j h
          · have : j = k := by omega
            subst this; rw [HGK.out]; exact hbb
        go_roundw
        case rel => exact ⟨k + 1, by omega, by go_num, HNX, _, rfl⟩
        case measure => simp [intOf]; omega
      subst h0
      by_cases h1 : r1 = u
      rotate_left
      · have h1' : ¬ u = r1 := fun e => h1 e.symm
        have hbb : eqE ⟨r0, u, v, x⟩ ⟨r0, r1, r2, r3⟩ = false := by simp [eqE, h1']
        go_wp2_with fail
        go_quiet (fail)
        go_wp2_with fail
        have HNX : Hid (∀ j, j < k + 1 → eqE ⟨r0, u, v, x⟩ (eAt l j) = false) := fun j hj => by
          rcases Nat.lt_or_ge j k with h | h
          · exact hp.out j h
          · have : j = k := by omega
            subst this; rw [HGK.out]; exact hbb
        go_roundw
        case rel => exact ⟨k + 1, by omega, by go_num, HNX, _, rfl⟩
        case measure => simp [intOf]; omega
      subst h1
      by_cases h2 : r2 = v
      rotate_left
      · have h2' : ¬ v = r2 := fun e => h2 e.symm
        have hbb : eqE ⟨r0, r1, v, x⟩ ⟨r0, r1, r2, r3⟩ = false := by simp [eqE, h2']
        go_wp2_with fail
        go_quiet (fail)
        go_wp2_with fail
        have HNX : Hid (∀ j, j < k + 1 → eqE ⟨r0, r1, v, x⟩ (eAt l j) = false) := fun j hj => by
          rcases Nat.lt_or_ge j k with h | h
          · exact hp.out j h
          · have : j = k := by omega
            subst this; rw [HGK.out]; exact hbb
        go_roundw
        case rel => exact ⟨k + 1, by omega, by go_num, HNX, _, rfl⟩
        case measure => simp [intOf]; omega
      subst h2
      by_cases h3 : r3 = x
      rotate_left
      · have h3' : ¬ x = r3 := fun e => h3 e.symm
        have hbb : eqE ⟨r0, r1, r2, x⟩ ⟨r0, r1, r2, r3⟩ = false := by simp [eqE, h3']
        go_wp2_with fail
        go_quiet (fail)
        go_wp2_with fail
        have HNX : Hid (∀ j, j < k + 1 → eqE ⟨r0, r1, r2, x⟩ (eAt l j) = false) := fun j hj => by
          rcases Nat.lt_or_ge j k with h | h
          · exact hp.out j h
          · have : j = k := by omega
            subst this; rw [HGK.out]; exact hbb
        go_roundw
        case rel => exact ⟨k + 1, by omega, by go_num, HNX, _, rfl⟩
        case measure => simp [intOf]; omega
      subst h3
      have hbb : eqE ⟨r0, r1, r2, r3⟩ ⟨r0, r1, r2, r3⟩ = true := eqE_self _
      go_wp2_with fail
      go_quiet (fail)
      go_wp2_with fail
      go_ret
      exact ⟨by rw [← HRR.out, any_yes HKL.out (by rw [HGK.out]; exact hbb)]; simp, drewNB (drewNB hb _) _⟩
    · have hki : ¬ ((k : Int) < (n : Int)) := by omega
      go_wp2_with fail
      go_ret
      exact ⟨by rw [← HRR.out, any_no HN.out (fun j hj => hp.out j (by omega))]; simp, drewNB hb _⟩
end Go.Proofs.YtdlphgknplomkaaDoor