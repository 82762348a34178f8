/- Contracts of the functions that draw frames. No statement is proved here. -/
import Derived.Test.YtddiloillgbneaaDoorFrmE
import Derived.Test.YtddiloillgbneaaDoorDrG
import Derived.Test.YtddiloillgbneaaDoorAppS
import Derived.Deep.RegionLaw
namespace Go.Proofs.YtddiloillgbneaaDoor
open Go.RowKit

theorem row_box {w w' : World} {base n g : Nat} {E : TypeId} {size : Nat} {v : Value} {cs : List Value} {o : Obj} (hown : w.ownsRow base E size v n cs) (hg : w.grownBy w' v.ownBlock) (hb : g < base) (h : Hid (w.heap[g]? = some o)) : Hid (w'.heap[g]? = some o) :=
  (hg.block g (blk_lt h.out) (fun e => by have := (hown.lt g e.symm).1; omega)).trans h.out
theorem row_rdr {w w' : World} {R f base n : Nat} {E : TypeId} {size : Nat} {v : Value} {cs : List Value} (h : Rdr w R f) (hown : w.ownsRow base E size v n cs) (hg : w.grownBy w' v.ownBlock) (hb : R < base) : Rdr w' R f :=
  h.kept hg (fun k e => Nat.lt_of_lt_of_le hb (hown.lt k e).1)
theorem row_gr {a w w' : World} {R base n : Nat} {E : TypeId} {size : Nat} {v : Value} {cs : List Value} (h : a.grownBy w (some R)) (hown : w.ownsRow base E size v n cs) (hg : w.grownBy w' v.ownBlock) (hb : a.heap.size ≤ base) : a.grownBy w' (some R) :=
  h.andThen hg (fun k e => .inl (Nat.le_trans hb (hown.lt k e).1))
theorem row_set {w : World} {base n g j : Nat} {u : Value} {E : TypeId} {size : Nat} {v : Value} {cs : List Value} (hown : w.ownsRow base E size v n cs) (hb : g < base) : (w.setCell ⟨g, j, none⟩ u).ownsRow base E size v n cs := by
  refine hown.kept (set_grown w g j u) ?_
  cases hv : v.ownBlock with
  | none => exact .inl rfl
  | some k => right; have := hown.lt k hv; simp; omega
theorem mk_box {g : Nat} {w w' : World} {o : Obj} (h : Hid (w.heap[g]? = some o)) (hg : w.grownBy w' none) : Hid (w'.heap[g]? = some o) := (hg.block g (blk_lt h.out) (by simp)).trans h.out
theorem lit5 {w : World} {g i : Nat} {a b c d e : Int} {T : TypeId} (h : Hid (w.heap[g]? = some (.cells #[.int .i64 a, .int .i64 b, .int .i64 c, .int .i64 d, .int .i64 e] T (0, 0)))) (hi : i < 5) : ∃ v : Int, w.cell? ⟨g, i, none⟩ = some (.int .i64 v) := by
  rw [box_cell h]
  obtain rfl | rfl | rfl | rfl | rfl : i = 0 ∨ i = 1 ∨ i = 2 ∨ i = 3 ∨ i = 4 := by omega
  all_goals exact ⟨_, rfl⟩
theorem lit2 {w : World} {g i : Nat} {a b : Int} {T : TypeId} (h : Hid (w.heap[g]? = some (.cells #[.int .i64 a, .int .i64 b] T (0, 0)))) (hi : i < 2) : ∃ v : Int, w.cell? ⟨g, i, none⟩ = some (.int .i64 v) := by
  rw [box_cell h]
  obtain rfl | rfl : i = 0 ∨ i = 1 := by omega
  all_goals exact ⟨_, rfl⟩
theorem odd0C (R : Nat) (w : World) : Calls Tryd.prog 34 #[.pointer (some ⟨R, 0, none⟩), .int .i64 0] w fun e w' => e = .returned (.bool false) ∧ w = w' := by
  go_enter Tryd.func34, Tryd.ntmps34
  go_wp2_with fail
  go_ret
  exact ⟨rfl, rfl⟩
theorem oddN (R f : Nat) (n : Int) (w : World) (hr : Rdr w R f) (hf : f ≤ 1000000) (hn0 : 0 ≤ n) (hn : n ≤ 1000000) :
    Calls Tryd.prog 34 #[.pointer (some ⟨R, 0, none⟩), .int .i64 n] w (Odded R f w) := by
  by_cases h : n = 0
  · subst h
    refine (odd0C R w).mono ?_
    rintro e w' ⟨rfl, rfl⟩
    exact ⟨false, rfl, hr.mono (Nat.le_succ _), gr_refl _ _⟩
  · exact oddC R f n w hr hf (by omega) hn
/-- a frame is drawn -/
def DrFr (R f : Nat) (w : World) (e : Ending) (w' : World) : Prop :=
  ∃ (a : Int) (l : List Int) (B : Option Addr) (c : Nat), e = .returned (.agg #[.int .i64 a, .slice B l.length c]) ∧ l.length ≤ 13 ∧ Fm B l.length c ∧ Own w' w.heap.size 3 1 B l.length (ints l) ∧ Rdr w' R f ∧ w.grownBy w' (some R)

set_option maxRecDepth 100000 in
set_option maxHeartbeats 8000000 in
theorem drFrame (R f : Nat) (n : Int) (w : World) (hr : Rdr w R f) (hf : f ≤ 900000) (hn0 : 0 ≤ n) (hn : n ≤ 1000) :
    Calls Tryd.prog 23 #[.pointer (some ⟨R, 0, none⟩), .int .i64 n] w (DrFr R (f + 20) w) := by
  have HL := Lib.hid hr.lt
  have HR := Lib.hid hr; clear hr
  have HG := Lib.hid (gr_refl w R)
  obtain ⟨i0, hi0, hz0, hz1, hz2⟩ := info_parts info_int
  have HI := Lib.hid (And.intro hi0 (And.intro hz0 (And.intro hz1 hz2))); clear hi0 hz0 hz1 hz2
  go_enter Tryd.func23, Tryd.ntmps23
  replace HR := Lib.hid (rdr_alloc HR.out (.cells #[.int .i64 0, .slice none 0 0] 25))
  have B_q := new_box w (.cells #[.int .i64 0, .slice none 0 0] 25)
  have Z_q : w.heap.size ≤ w.heap.size := by have := HG.out.size; first | omega | (simp at this; omega) | (simp at this ⊢; omega)
  have N_q : R < w.heap.size := by have := HL.out; omega
  replace HG := Lib.hid (gr_alloc HG.out (.cells #[.int .i64 0, .slice none 0 0] 25))
  go_wp2_with fail
  refine (pickC R _ 256 _ HR.out (by omega) (by omega)).mono ?_
  rintro e w1 ⟨x1, rfl, hx_x1, hR, hg⟩
  replace B_q := dr_box B_q hg (by omega)
  replace HR := Lib.hid hR
  replace HG := Lib.hid (HG.out.trans hg)
  clear hR hg
  have M0_q := blk_lt B_q.out
  replace B_q := al_box B_q (.cells #[.int .i64 0, .int .i64 5, .int .i64 104, .int .i64 255, .int .i64 (x1 : Int)] 3)
  replace HR := Lib.hid (rdr_alloc HR.out (.cells #[.int .i64 0, .int .i64 5, .int .i64 104, .int .i64 255, .int .i64 (x1 : Int)] 3))
  have B_l := new_box w1 (.cells #[.int .i64 0, .int .i64 5, .int .i64 104, .int .i64 255, .int .i64 (x1 : Int)] 3)
  have Z_l : w.heap.size ≤ w1.heap.size := by have := HG.out.size; first | omega | (simp at this; omega) | (simp at this ⊢; omega)
  have N_l : R < w1.heap.size := by have := HL.out; omega
  have M_q_l : w.heap.size < w1.heap.size := M0_q
  replace HG := Lib.hid (gr_alloc HG.out (.cells #[.int .i64 0, .int .i64 5, .int .i64 104, .int .i64 255, .int .i64 (x1 : Int)] 3))
  go_wp2_with fail
  refine (pickC R _ 5 _ HR.out (by omega) (by omega)).mono ?_
  rintro e w2 ⟨i1, rfl, hx_i1, hR, hg⟩
  replace B_q := dr_box B_q hg (by omega)
  replace B_l := dr_box B_l hg (by omega)
  replace HR := Lib.hid hR
  replace HG := Lib.hid (HG.out.trans hg)
  clear hR hg
  clear M0_q
  obtain ⟨a, ha⟩ := lit5 B_l (show i1 < 5 by omega)
  have M0_q := blk_lt B_q.out
  have M0_l := blk_lt B_l.out
  replace B_q := al_box B_q (.cells #[.int .i64 a, .slice none 0 0] 25)
  replace B_l := al_box B_l (.cells #[.int .i64 a, .slice none 0 0] 25)
  replace HR := Lib.hid (rdr_alloc HR.out (.cells #[.int .i64 a, .slice none 0 0] 25))
  have B_f := new_box w2 (.cells #[.int .i64 a, .slice none 0 0] 25)
  have Z_f : w.heap.size ≤ w2.heap.size := by have := HG.out.size; first | omega | (simp at this; omega) | (simp at this ⊢; omega)
  have N_f : R < w2.heap.size := by have := HL.out; omega
  have M_q_f : w.heap.size < w2.heap.size := M0_q
  have M_l_f : w1.heap.size < w2.heap.size := M0_l
  replace HG := Lib.hid (gr_alloc HG.out (.cells #[.int .i64 a, .slice none 0 0] 25))
  go_wp2_with fail
  refine (pickC R _ 7 _ HR.out (by omega) (by omega)).mono ?_
  rintro e w3 ⟨k0, rfl, hx_k0, hR, hg⟩
  replace B_q := dr_box B_q hg (by omega)
  replace B_l := dr_box B_l hg (by omega)
  replace B_f := dr_box B_f hg (by omega)
  replace HR := Lib.hid hR
  replace HG := Lib.hid (HG.out.trans hg)
  clear hR hg
  clear M0_q M0_l
  have hown : w3.ownsRow (w2.heap.size + 1) 3 1 (.slice none 0 0) 0 (ints []) := ⟨by simp [ints], .inl ⟨rfl, rfl⟩⟩
  have hRq : R < w.heap.size := N_q
  have hZq : w.heap.size ≤ w.heap.size := Z_q
  have hqf : w.heap.size < w2.heap.size := M_q_f
  have hRf : R < w2.heap.size := N_f
  have hZf : w.heap.size ≤ w2.heap.size := Z_f
  have hk6 : k0 ≤ 6 := by omega
  have BF := B_f; have BQ := B_q
  clear B_f B_q B_l ha hx_k0 hx_x1 hx_i1
  clear M_q_f N_q Z_q N_f Z_f
  go_wp2_with fail
  go_loopw [6] (fun i wr => ∃ (k : Nat) (acc : List Int) (B : Option Addr) (c' : Nat), k ≤ 6 ∧ i = .int .i64 k ∧ acc.length + k ≤ 6 ∧ Hid (wr.heap[w.heap.size]? = some (.cells #[.int .i64 0, .slice none 0 0] 25 (0, 0))) ∧ Hid (wr.heap[w2.heap.size]? = some (.cells #[.int .i64 a, .slice B acc.length c'] 25 (0, 0))) ∧ wr.ownsRow (w2.heap.size + 1) 3 1 (.slice B acc.length c') acc.length (ints acc) ∧ Hid (Rdr wr R (f + 3 + 2 * (6 - k))) ∧ Hid (w.grownBy wr (some R))) (fun i _ => (intOf i).toNat)
  case atStart => exact ⟨k0, [], none, 0, by omega, rfl, by simp; omega, BQ, BF, hown, Lib.hid (HR.out.mono (by omega)), HG⟩
  case round =>
    clear HR HG hown BQ BF hk6
    obtain ⟨k, acc, B, c', hk, rfl, hacc, BQ, BF, hown, HR, HG⟩ := hrel
    by_cases hlt : 0 < k
    · skip
      go_wp2_with fail
      have c0 : wr.cell? ⟨w2.heap.size, 1, none⟩ = some (.slice B acc.length c') := box_cell BF 1
      have BFd : Hid (wr.drew.heap[w2.heap.size]? = some (.cells #[.int .i64 a, .slice B acc.length c'] 25 (0, 0))) := BF
      have BQd : Hid (wr.drew.heap[w.heap.size]? = some (.cells #[.int .i64 0, .slice none 0 0] 25 (0, 0))) := BQ
      have hownd : wr.drew.ownsRow (w2.heap.size + 1) 3 1 (.slice B acc.length c') acc.length (ints acc) := hown
      have HRd : Hid (Rdr wr.drew R (f + 3 + 2 * (6 - k))) := HR
      have HGd : w.grownBy wr.drew (some R) := ⟨HG.out.os, HG.out.tape, HG.out.output, HG.out.size, HG.out.block⟩
      have hgl := blk_lt BF.out
      have hgl2 : w2.heap.size < wr.drew.heap.size := hgl
      have h256 : (256 : Int) ≤ 1000000 := by omega
      have h5 : (5 : Int) ≤ 1000000 := by omega
      have hfb2 : f + 3 + 2 * (6 - k) + 1 ≤ 1000000 := by omega
      have HP1 := Lib.hid (pickC R _ 256 wr.drew HRd.out (by omega) h256)
      have hRlt : R < wr.drew.heap.size := HRd.out.lt
      go_region_law (first | (refine step_appN _ rfl _ _ _ rfl (w2.heap.size + 1) 3 i0 _ 1 8 Tryd.underlying23 HI.out rfl Nat.one_pos (.slice B acc.length c') acc.length (ints acc) rfl HOW.out _ 1 1 [.int .i64 v] rfl rfl RDL.out (fun e => by cases e) (by simp [Value.oneCell']) (by omega) (by omega) hWs ?_; intro v' w9 hown9 hg9; have BF9 := row_box HOW.out hg9 (by omega) BFw; have BQ9 := row_box HOW.out hg9 (by omega) BQw; have HR9 := Lib.hid (row_rdr HRw.out HOW.out hg9 (by omega)); have HG9 := Lib.hid (row_gr HGw.out HOW.out hg9 (by omega)); clear hg9 HOW BFw BQw HRw HGw RDL; obtain ⟨B2, c2, rfl, hsn⟩ := snoc_ints hown9 rfl; clear hown9; have c9 := box_cell BF9 1; have f9 := box_free BF9 1) | (go_simp; go_at_call 32; refine Calls.mono (by with_reducible exact HP1.out) ?_; rintro e wp ⟨x, rfl, hx, hR1, hg1⟩; have hsz1 := hg1.size; have hlt1 := hR1.lt; have BF1 := dr_box BFd hg1 (by omega); have BQ1 := dr_box BQd hg1 (by omega); have HO1 := Lib.hid (row_dr hownd hg1 (by omega)); have HG1 := Lib.hid (World.grownBy.trans HGd hg1); have HR1 := Lib.hid hR1; have c1 := box_cell BF1 1; have HP2A := Lib.hid (pickC R _ 5 (wp.alloc (.cells #[.int .i64 104, .int .i64 22, .int .i64 0, .int .i64 1, .int .i64 (x : Int)] 3)) (rdr_alloc hR1 (.cells #[.int .i64 104, .int .i64 22, .int .i64 0, .int .i64 1, .int .i64 (x : Int)] 3)) hfb2 h5); have HP2B := Lib.hid (pickC R _ 5 wp hR1 hfb2 h5); have c1a := box_cell (al_box BF1 (.cells #[.int .i64 104, .int .i64 22, .int .i64 0, .int .i64 1, .int .i64 (x : Int)] 3)) 1; clear hx; clear hg1 hR1) | (go_simp; go_at_call 32; refine Calls.mono (by with_reducible exact HP2A.out) ?_; rintro e wq ⟨i, rfl, hi, hR2, hg2⟩; have hsz2 := hg2.size; have hlt2 := hR2.lt; have BF2 := dr_box (al_box BF1 (.cells #[.int .i64 104, .int .i64 22, .int .i64 0, .int .i64 1, .int .i64 (x : Int)] 3)) hg2 (by omega); have BQ2 := dr_box (al_box BQ1 (.cells #[.int .i64 104, .int .i64 22, .int .i64 0, .int .i64 1, .int .i64 (x : Int)] 3)) hg2 (by omega); have HO2 := Lib.hid (row_dr (HO1.out.alloc (.cells #[.int .i64 104, .int .i64 22, .int .i64 0, .int .i64 1, .int .i64 (x : Int)] 3)) hg2 (by omega)); have HG2 := Lib.hid (World.grownBy.trans (gr_alloc HG1.out (.cells #[.int .i64 104, .int .i64 22, .int .i64 0, .int .i64 1, .int .i64 (x : Int)] 3)) hg2); have HR2 := Lib.hid hR2; have c2 := box_cell BF2 1; have hi5 : (i : Int) < 5 := (by omega); obtain ⟨v, hv⟩ := lit5 (dr_box (new_box wp (.cells #[.int .i64 104, .int .i64 22, .int .i64 0, .int .i64 1, .int .i64 (x : Int)] 3)) hg2 (by omega)) (show i < 5 by omega); clear hi; have HOW : Hid ((wq.alloc (.cells #[.int .i64 v] 3)).ownsRow (w2.heap.size + 1) 3 1 (.slice B acc.length c') acc.length (ints acc)) := Lib.hid ((HO2.out.alloc (.cells #[.int .i64 v] 3))); have BFw := (al_box BF2 (.cells #[.int .i64 v] 3)); have BQw := (al_box BQ2 (.cells #[.int .i64 v] 3)); have HRw := Lib.hid ((rdr_alloc HR2.out (.cells #[.int .i64 v] 3))); have HGw := Lib.hid ((gr_alloc HG2.out (.cells #[.int .i64 v] 3))); have cw := box_cell BFw 1; have RDL : Hid (Rd (wq.alloc (.cells #[.int .i64 v] 3)) (some ⟨wq.heap.size, 0, none⟩) [.int .i64 v]) := Lib.hid (rd_new wq #[.int .i64 v] 3); have hWs : w2.heap.size + 1 ≤ (wq.alloc (.cells #[.int .i64 v] 3)).heap.size := (by have := blk_lt BFw.out; omega); clear hg2 hR2) | (go_simp; go_at_call 32; refine Calls.mono (by with_reducible exact HP2B.out) ?_; rintro e wq ⟨i, rfl, hi, hR2, hg2⟩; have hsz2 := hg2.size; have hlt2 := hR2.lt; have BF2 := dr_box BF1 hg2 (by omega); have BQ2 := dr_box BQ1 hg2 (by omega); have HO2 := Lib.hid (row_dr HO1.out hg2 (by omega)); have HG2 := Lib.hid (World.grownBy.trans HG1.out hg2); have HR2 := Lib.hid hR2; have c2 := box_cell BF2 1; have hi5 : (i : Int) < 5 := (by omega); obtain ⟨v, hv⟩ := lit5 (new_box wq (.cells #[.int .i64 104, .int .i64 22, .int .i64 0, .int .i64 1, .int .i64 (x : Int)] 3)) (show i < 5 by omega); clear hi; have HOW : Hid (((wq.alloc (.cells #[.int .i64 104, .int .i64 22, .int .i64 0, .int .i64 1, .int .i64 (x : Int)] 3)).alloc (.cells #[.int .i64 v] 3)).ownsRow (w2.heap.size + 1) 3 1 (.slice B acc.length c') acc.length (ints acc)) := Lib.hid (((HO2.out.alloc (.cells #[.int .i64 104, .int .i64 22, .int .i64 0, .int .i64 1, .int .i64 (x : Int)] 3)).alloc (.cells #[.int .i64 v] 3))); have BFw := (al_box (al_box BF2 (.cells #[.int .i64 104, .int .i64 22, .int .i64 0, .int .i64 1, .int .i64 (x : Int)] 3)) (.cells #[.int .i64 v] 3)); have BQw := (al_box (al_box BQ2 (.cells #[.int .i64 104, .int .i64 22, .int .i64 0, .int .i64 1, .int .i64 (x : Int)] 3)) (.cells #[.int .i64 v] 3)); have HRw := Lib.hid ((rdr_alloc (rdr_alloc HR2.out (.cells #[.int .i64 104, .int .i64 22, .int .i64 0, .int .i64 1, .int .i64 (x : Int)] 3)) (.cells #[.int .i64 v] 3))); have HGw := Lib.hid ((gr_alloc (gr_alloc HG2.out (.cells #[.int .i64 104, .int .i64 22, .int .i64 0, .int .i64 1, .int .i64 (x : Int)] 3)) (.cells #[.int .i64 v] 3))); have cw := box_cell BFw 1; have ca := box_cell (al_box BF2 (.cells #[.int .i64 104, .int .i64 22, .int .i64 0, .int .i64 1, .int .i64 (x : Int)] 3)) 1; have RDL : Hid (Rd ((wq.alloc (.cells #[.int .i64 104, .int .i64 22, .int .i64 0, .int .i64 1, .int .i64 (x : Int)] 3)).alloc (.cells #[.int .i64 v] 3)) (some ⟨wq.heap.size + 1, 0, none⟩) [.int .i64 v]) := Lib.hid (by simpa using rd_new (wq.alloc (.cells #[.int .i64 104, .int .i64 22, .int .i64 0, .int .i64 1, .int .i64 (x : Int)] 3)) #[.int .i64 v] 3); have hWs : w2.heap.size + 1 ≤ ((wq.alloc (.cells #[.int .i64 104, .int .i64 22, .int .i64 0, .int .i64 1, .int .i64 (x : Int)] 3)).alloc (.cells #[.int .i64 v] 3)).heap.size := (by have := blk_lt BFw.out; omega); clear hg2 hR2))
      all_goals
        go_wp2_with fail
        go_roundw
        case rel => exact ⟨k - 1, acc ++ [v], B2, c2, by omega, by rw [Int.ofNat_sub (by omega)]; rfl, by simp; omega, st_box BQ9 _ (by omega), by have h9 := st_same BF9 1 (.slice B2 (acc.length + 1) c2); rw [show (acc ++ [v]).length = acc.length + 1 by simp]; exact h9, row_set hsn (by omega), Lib.hid ((rdr_set HR9.out 1 _ hRf).mono (by omega)), Lib.hid (gr_set HG9.out 1 _ hZf)⟩
        case measure => simp [intOf]; omega
    · skip
      have hk0 : k = 0 := by omega
      subst hk0
      replace HR := Lib.hid (HR.out.mono (show f + 3 + 2 * (6 - 0) ≤ f + 15 by omega))
      have hFm := row_fm hown
      go_wp2_with fail
      refine (oddN R _ n _ HR.out (by omega) (by omega) (by omega)).mono ?_
      rintro e wo ⟨bb, rfl, hR, hg⟩
      replace BF := dr_box BF hg (by omega)
      replace BQ := dr_box BQ hg (by omega)
      replace hown := row_dr hown hg (by omega)
      replace HR := Lib.hid hR
      replace HG := Lib.hid (HG.out.trans hg)
      clear hR hg
      cases bb with
      | false =>
        have r0 : wo.cell? ⟨w2.heap.size, 0, none⟩ = some (.int .i64 a) := box_cell BF 0
        have r1 : wo.cell? ⟨w2.heap.size, 1, none⟩ = some (.slice B acc.length c') := box_cell BF 1
        have y0 : wo.cell? ⟨w.heap.size, 0, none⟩ = some (.int .i64 0) := box_cell BQ 0
        have y1 : wo.frozen? ⟨w.heap.size, 0, none⟩ = false := box_free BQ 0
        have BQa := st_same BQ 0 (.int .i64 a)
        have y2 : (wo.setCell ⟨w.heap.size, 0, none⟩ (.int .i64 a)).cell? ⟨w.heap.size, 1, none⟩ = some (.slice none 0 0) := box_cell BQa 1
        have y3 : (wo.setCell ⟨w.heap.size, 0, none⟩ (.int .i64 a)).frozen? ⟨w.heap.size, 1, none⟩ = false := box_free BQa 1
        have BQb := st_same BQa 1 (.slice B acc.length c')
        have z0 := box_cell BQb 0
        have z1 := box_cell BQb 1
        have HRf := Lib.hid (rdr_set (rdr_set (HR.out) 0 (.int .i64 a) hRq) 1 (.slice B acc.length c') hRq)
        have HGf := Lib.hid (gr_set (gr_set (HG.out) 0 (.int .i64 a) hZq) 1 (.slice B acc.length c') hZq)
        have HOf := Lib.hid ((own_set (g := w.heap.size) (j := 1) (u := .slice B acc.length c') (own_set (g := w.heap.size) (j := 0) (u := .int .i64 a) (row_own hown) (show w.heap.size < w2.heap.size + 1 by omega)) (show w.heap.size < w2.heap.size + 1 by omega)).mono (show w.heap.size ≤ w2.heap.size + 1 by omega))
        go_wp2_with fail
        exact bodyPost_ret (v := .agg #[.int .i64 a, .slice B acc.length c']) (by simp [results, Tryd.results23, go_sem, z0, z1]) rfl ⟨a, acc, B, c', (by first | rfl | simp), by first | omega | (simp; done) | (simp; omega), hFm, HOf.out, HRf.out.mono (by omega), HGf.out⟩
      | true =>
        go_wp2_with fail
        refine (pickC R _ 3 _ HR.out (by omega) (by omega)).mono ?_
        rintro e wx ⟨p, rfl, hp, hR, hg⟩
        replace BF := dr_box BF hg (by omega)
        replace BQ := dr_box BQ hg (by omega)
        replace hown := row_dr hown hg (by omega)
        replace HR := Lib.hid hR
        replace HG := Lib.hid (HG.out.trans hg)
        clear hR hg
        obtain rfl | rfl | rfl : p = 0 ∨ p = 1 ∨ p = 2 := by omega
        · clear hp
          go_wp2_with fail
          have hlx := HR.out.lt
          refine (pickC R _ 2 _ (rdr_alloc HR.out (.cells #[.int .i64 (-1), .int .i64 256] 3)) (by omega) (by omega)).mono ?_
          rintro e wy ⟨i, rfl, hi, hR, hg⟩
          obtain ⟨v, hv⟩ := lit2 (dr_box (new_box wx (.cells #[.int .i64 (-1), .int .i64 256] 3)) hg (by omega)) (show i < 2 by omega)
          replace BF := dr_box (al_box BF (.cells #[.int .i64 (-1), .int .i64 256] 3)) hg (by omega)
          replace BQ := dr_box (al_box BQ (.cells #[.int .i64 (-1), .int .i64 256] 3)) hg (by omega)
          replace hown := row_dr (hown.alloc (.cells #[.int .i64 (-1), .int .i64 256] 3)) hg (by omega)
          replace HR := Lib.hid hR
          replace HG := Lib.hid ((gr_alloc HG.out (.cells #[.int .i64 (-1), .int .i64 256] 3)).trans hg)
          clear hR hg
          have q0 := box_cell BF 0
          have q1 := box_free BF 0
          have BF' := st_same BF 0 (.int .i64 v)
          have BQ' := st_box (g' := w2.heap.size) (j := 0) BQ (.int .i64 v) (by omega)
          have hown' := row_set (g := w2.heap.size) (j := 0) (u := .int .i64 v) hown (by omega)
          have HR' := Lib.hid (rdr_set HR.out 0 (.int .i64 v) hRf)
          have HG' := Lib.hid (gr_set HG.out 0 (.int .i64 v) hZf)
          have r0 : (wy.setCell ⟨w2.heap.size, 0, none⟩ (.int .i64 v)).cell? ⟨w2.heap.size, 0, none⟩ = some (.int .i64 v) := box_cell BF' 0
          have r1 : (wy.setCell ⟨w2.heap.size, 0, none⟩ (.int .i64 v)).cell? ⟨w2.heap.size, 1, none⟩ = some (.slice B acc.length c') := box_cell BF' 1
          have y0 : (wy.setCell ⟨w2.heap.size, 0, none⟩ (.int .i64 v)).cell? ⟨w.heap.size, 0, none⟩ = some (.int .i64 0) := box_cell BQ' 0
          have y1 : (wy.setCell ⟨w2.heap.size, 0, none⟩ (.int .i64 v)).frozen? ⟨w.heap.size, 0, none⟩ = false := box_free BQ' 0
          have BQa := st_same BQ' 0 (.int .i64 v)
          have y2 : ((wy.setCell ⟨w2.heap.size, 0, none⟩ (.int .i64 v)).setCell ⟨w.heap.size, 0, none⟩ (.int .i64 v)).cell? ⟨w.heap.size, 1, none⟩ = some (.slice none 0 0) := box_cell BQa 1
          have y3 : ((wy.setCell ⟨w2.heap.size, 0, none⟩ (.int .i64 v)).setCell ⟨w.heap.size, 0, none⟩ (.int .i64 v)).frozen? ⟨w.heap.size, 1, none⟩ = false := box_free BQa 1
          have BQb := st_same BQa 1 (.slice B acc.length c')
          have z0 := box_cell BQb 0
          have z1 := box_cell BQb 1
          have HRf := Lib.hid (rdr_set (rdr_set (HR'.out) 0 (.int .i64 v) hRq) 1 (.slice B acc.length c') hRq)
          have HGf := Lib.hid (gr_set (gr_set (HG'.out) 0 (.int .i64 v) hZq) 1 (.slice B acc.length c') hZq)
          have HOf := Lib.hid ((own_set (g := w.heap.size) (j := 1) (u := .slice B acc.length c') (own_set (g := w.heap.size) (j := 0) (u := .int .i64 v) (row_own hown') (show w.heap.size < w2.heap.size + 1 by omega)) (show w.heap.size < w2.heap.size + 1 by omega)).mono (show w.heap.size ≤ w2.heap.size + 1 by omega))
          go_wp2_with fail
          exact bodyPost_ret (v := .agg #[.int .i64 v, .slice B acc.length c']) (by simp [results, Tryd.results23, go_sem, z0, z1]) rfl ⟨v, acc, B, c', (by first | rfl | simp), by first | omega | (simp; done) | (simp; omega), hFm, HOf.out, HRf.out.mono (by omega), HGf.out⟩
        · clear hp
          go_wp2_with fail
          have hlx := HR.out.lt
          have hlx2 : R < wx.drew.heap.size := hlx
          replace HR := Lib.hid (HR.out.mono (show f + 15 + 1 + 1 ≤ f + 17 by omega))
          have c0 : wx.cell? ⟨w2.heap.size, 1, none⟩ = some (.slice B acc.length c') := box_cell BF 1
          have BFd : Hid (wx.drew.heap[w2.heap.size]? = some (.cells #[.int .i64 a, .slice B acc.length c'] 25 (0, 0))) := BF
          have BQd : Hid (wx.drew.heap[w.heap.size]? = some (.cells #[.int .i64 0, .slice none 0 0] 25 (0, 0))) := BQ
          have hownd : wx.drew.ownsRow (w2.heap.size + 1) 3 1 (.slice B acc.length c') acc.length (ints acc) := hown
          have HRd : Hid (Rdr wx.drew R (f + 17)) := HR
          have HGd : w.grownBy wx.drew (some R) := ⟨HG.out.os, HG.out.tape, HG.out.output, HG.out.size, HG.out.block⟩
          have hgl := blk_lt BF.out
          have hgl2 : w2.heap.size < wx.drew.heap.size := hgl
          have h2 : (2 : Int) ≤ 1000000 := by omega
          have HRA : Rdr (wx.alloc (.cells #[.int .i64 (-1), .int .i64 256] 3)).drew R (f + 17) := rdr_alloc HR.out (.cells #[.int .i64 (-1), .int .i64 256] 3)
          have HP1A := Lib.hid (pickC R _ 2 (wx.alloc (.cells #[.int .i64 (-1), .int .i64 256] 3)).drew HRA (by omega) h2)
          have HP1B := Lib.hid (pickC R _ 2 wx.drew HRd.out (by omega) h2)
          have BFA : Hid ((wx.alloc (.cells #[.int .i64 (-1), .int .i64 256] 3)).drew.heap[w2.heap.size]? = some (.cells #[.int .i64 a, .slice B acc.length c'] 25 (0, 0))) := al_box BF (.cells #[.int .i64 (-1), .int .i64 256] 3)
          have BQA : Hid ((wx.alloc (.cells #[.int .i64 (-1), .int .i64 256] 3)).drew.heap[w.heap.size]? = some (.cells #[.int .i64 0, .slice none 0 0] 25 (0, 0))) := al_box BQ (.cells #[.int .i64 (-1), .int .i64 256] 3)
          have HOA : (wx.alloc (.cells #[.int .i64 (-1), .int .i64 256] 3)).drew.ownsRow (w2.heap.size + 1) 3 1 (.slice B acc.length c') acc.length (ints acc) := hown.alloc (.cells #[.int .i64 (-1), .int .i64 256] 3)
          have HG0 := gr_alloc HG.out (.cells #[.int .i64 (-1), .int .i64 256] 3)
          have HGA : w.grownBy (wx.alloc (.cells #[.int .i64 (-1), .int .i64 256] 3)).drew (some R) := ⟨HG0.os, HG0.tape, HG0.output, HG0.size, HG0.block⟩
          have LA : Hid ((wx.alloc (.cells #[.int .i64 (-1), .int .i64 256] 3)).drew.heap[wx.heap.size]? = some (.cells #[.int .i64 (-1), .int .i64 256] 3 (0, 0))) := new_box wx (.cells #[.int .i64 (-1), .int .i64 256] 3)
          have c0a := box_cell BFA 1
          clear HG0
          go_region_law (first | (refine step_appN _ rfl _ _ _ rfl (w2.heap.size + 1) 3 i0 _ 1 8 Tryd.underlying23 HI.out rfl Nat.one_pos (.slice B acc.length c') acc.length (ints acc) rfl HOW.out _ 1 1 [.int .i64 v] rfl rfl RDL.out (fun e => by cases e) (by simp [Value.oneCell']) (by omega) (by omega) hWs ?_; intro v' w9 hown9 hg9; have BF9 := row_box HOW.out hg9 (by omega) BFw; have BQ9 := row_box HOW.out hg9 (by omega) BQw; have HR9 := Lib.hid (row_rdr HRw.out HOW.out hg9 (by omega)); have HG9 := Lib.hid (row_gr HGw.out HOW.out hg9 (by omega)); clear hg9 HOW BFw BQw HRw HGw RDL; obtain ⟨B2, c2, rfl, hsn⟩ := snoc_ints hown9 rfl; clear hown9; have c9 := box_cell BF9 1; have f9 := box_free BF9 1) | (go_simp; go_at_call 32; refine Calls.mono (by with_reducible exact HP1A.out) ?_; rintro e wq ⟨i, rfl, hi, hR2, hg2⟩; have hsz2 := hg2.size; have hlt2 := hR2.lt; have BF2 := dr_box BFA hg2 (by omega); have BQ2 := dr_box BQA hg2 (by omega); have HO2 := Lib.hid (row_dr HOA hg2 (by omega)); have HG2 := Lib.hid (World.grownBy.trans HGA hg2); have HR2 := Lib.hid hR2; have c2 := box_cell BF2 1; have hi5 : (i : Int) < 2 := (by omega); obtain ⟨v, hv⟩ := lit2 (dr_box LA hg2 (by omega)) (show i < 2 by omega); clear hi; have HOW : Hid ((wq.alloc (.cells #[.int .i64 v] 3)).ownsRow (w2.heap.size + 1) 3 1 (.slice B acc.length c') acc.length (ints acc)) := Lib.hid ((HO2.out.alloc (.cells #[.int .i64 v] 3))); have BFw := (al_box BF2 (.cells #[.int .i64 v] 3)); have BQw := (al_box BQ2 (.cells #[.int .i64 v] 3)); have HRw := Lib.hid ((rdr_alloc HR2.out (.cells #[.int .i64 v] 3))); have HGw := Lib.hid ((gr_alloc HG2.out (.cells #[.int .i64 v] 3))); have cw := box_cell BFw 1; have RDL : Hid (Rd (wq.alloc (.cells #[.int .i64 v] 3)) (some ⟨wq.heap.size, 0, none⟩) [.int .i64 v]) := Lib.hid (rd_new wq #[.int .i64 v] 3); have hWs : w2.heap.size + 1 ≤ (wq.alloc (.cells #[.int .i64 v] 3)).heap.size := (by have := blk_lt BFw.out; omega); clear hg2 hR2) | (go_simp; go_at_call 32; refine Calls.mono (by with_reducible exact HP1B.out) ?_; rintro e wq ⟨i, rfl, hi, hR2, hg2⟩; have hsz2 := hg2.size; have hlt2 := hR2.lt; have BF2 := dr_box BFd hg2 (by omega); have BQ2 := dr_box BQd hg2 (by omega); have HO2 := Lib.hid (row_dr hownd hg2 (by omega)); have HG2 := Lib.hid (World.grownBy.trans HGd hg2); have HR2 := Lib.hid hR2; have c2 := box_cell BF2 1; have hi5 : (i : Int) < 2 := (by omega); obtain ⟨v, hv⟩ := lit2 (new_box wq (.cells #[.int .i64 (-1), .int .i64 256] 3)) (show i < 2 by omega); clear hi; have HOW : Hid (((wq.alloc (.cells #[.int .i64 (-1), .int .i64 256] 3)).alloc (.cells #[.int .i64 v] 3)).ownsRow (w2.heap.size + 1) 3 1 (.slice B acc.length c') acc.length (ints acc)) := Lib.hid (((HO2.out.alloc (.cells #[.int .i64 (-1), .int .i64 256] 3)).alloc (.cells #[.int .i64 v] 3))); have BFw := (al_box (al_box BF2 (.cells #[.int .i64 (-1), .int .i64 256] 3)) (.cells #[.int .i64 v] 3)); have BQw := (al_box (al_box BQ2 (.cells #[.int .i64 (-1), .int .i64 256] 3)) (.cells #[.int .i64 v] 3)); have HRw := Lib.hid ((rdr_alloc (rdr_alloc HR2.out (.cells #[.int .i64 (-1), .int .i64 256] 3)) (.cells #[.int .i64 v] 3))); have HGw := Lib.hid ((gr_alloc (gr_alloc HG2.out (.cells #[.int .i64 (-1), .int .i64 256] 3)) (.cells #[.int .i64 v] 3))); have cw := box_cell BFw 1; have ca := box_cell (al_box BF2 (.cells #[.int .i64 (-1), .int .i64 256] 3)) 1; have RDL : Hid (Rd ((wq.alloc (.cells #[.int .i64 (-1), .int .i64 256] 3)).alloc (.cells #[.int .i64 v] 3)) (some ⟨wq.heap.size + 1, 0, none⟩) [.int .i64 v]) := Lib.hid (by simpa using rd_new (wq.alloc (.cells #[.int .i64 (-1), .int .i64 256] 3)) #[.int .i64 v] 3); have hWs : w2.heap.size + 1 ≤ ((wq.alloc (.cells #[.int .i64 (-1), .int .i64 256] 3)).alloc (.cells #[.int .i64 v] 3)).heap.size := (by have := blk_lt BFw.out; omega); clear hg2 hR2))
          all_goals
            have BFs := st_same BF9 1 (.slice B2 (acc.length + 1) c2)
            have BQs := st_box (g' := w2.heap.size) (j := 1) BQ9 (.slice B2 (acc.length + 1) c2) (by omega)
            have hFs := row_fm hsn
            have hsn' := row_set (g := w2.heap.size) (j := 1) (u := .slice B2 (acc.length + 1) c2) hsn (by omega)
            have HR' := Lib.hid (rdr_set HR9.out 1 (.slice B2 (acc.length + 1) c2) hRf)
            have HG' := Lib.hid (gr_set HG9.out 1 (.slice B2 (acc.length + 1) c2) hZf)
            have r0 : (w9.setCell ⟨w2.heap.size, 1, none⟩ (.slice B2 (acc.length + 1) c2)).cell? ⟨w2.heap.size, 0, none⟩ = some (.int .i64 a) := box_cell BFs 0
            have r1 : (w9.setCell ⟨w2.heap.size, 1, none⟩ (.slice B2 (acc.length + 1) c2)).cell? ⟨w2.heap.size, 1, none⟩ = some (.slice B2 (acc.length + 1) c2) := box_cell BFs 1
            have y0 : (w9.setCell ⟨w2.heap.size, 1, none⟩ (.slice B2 (acc.length + 1) c2)).cell? ⟨w.heap.size, 0, none⟩ = some (.int .i64 0) := box_cell BQs 0
            have y1 : (w9.setCell ⟨w2.heap.size, 1, none⟩ (.slice B2 (acc.length + 1) c2)).frozen? ⟨w.heap.size, 0, none⟩ = false := box_free BQs 0
            have BQa := st_same BQs 0 (.int .i64 a)
            have y2 : ((w9.setCell ⟨w2.heap.size, 1, none⟩ (.slice B2 (acc.length + 1) c2)).setCell ⟨w.heap.size, 0, none⟩ (.int .i64 a)).cell? ⟨w.heap.size, 1, none⟩ = some (.slice none 0 0) := box_cell BQa 1
            have y3 : ((w9.setCell ⟨w2.heap.size, 1, none⟩ (.slice B2 (acc.length + 1) c2)).setCell ⟨w.heap.size, 0, none⟩ (.int .i64 a)).frozen? ⟨w.heap.size, 1, none⟩ = false := box_free BQa 1
            have BQb := st_same BQa 1 (.slice B2 (acc.length + 1) c2)
            have z0 := box_cell BQb 0
            have z1 := box_cell BQb 1
            have HRf := Lib.hid (rdr_set (rdr_set (HR'.out) 0 (.int .i64 a) hRq) 1 (.slice B2 (acc.length + 1) c2) hRq)
            have HGf := Lib.hid (gr_set (gr_set (HG'.out) 0 (.int .i64 a) hZq) 1 (.slice B2 (acc.length + 1) c2) hZq)
            have HOf := Lib.hid ((own_set (g := w.heap.size) (j := 1) (u := .slice B2 (acc.length + 1) c2) (own_set (g := w.heap.size) (j := 0) (u := .int .i64 a) (row_own hsn') (show w.heap.size < w2.heap.size + 1 by omega)) (show w.heap.size < w2.heap.size + 1 by omega)).mono (show w.heap.size ≤ w2.heap.size + 1 by omega))
            go_wp2_with fail
            exact bodyPost_ret (v := .agg #[.int .i64 a, .slice B2 (acc.length + 1) c2]) (by simp [results, Tryd.results23, go_sem, z0, z1]) rfl ⟨a, acc ++ [v], B2, c2, (by first | rfl | simp), by first | omega | (simp; done) | (simp; omega), hFs, HOf.out, HRf.out.mono (by omega), HGf.out⟩
        · clear hp
          have hgl := blk_lt BF.out
          go_wp2_with (at_make; refine wpList_make_full _ rfl _ _ _ rfl (w2.heap.size + 1) 3 i0 (.int .i64 0) 1 Tryd.underlying23 HI.out.1 HI.out.2.1 HI.out.2.2.1 .i64 .i64 13 13 13 rfl rfl rfl rfl (by rw [HI.out.2.2.2]; omega) (by unfold maxLen; omega) (by omega) ?_; intro w5 hown5 hgr; have BF0 := mk_box BF hgr; have BQ0 := mk_box BQ hgr; have q0 := box_cell BF0 1; have q1 := box_free BF0 1; have hnew0 := row_own hown5; have e13 : (madeCells (Value.int IntKind.i64 0).cells (13 * 1)).toList = ints (List.replicate 13 0) := (by kernel_rfl); rw [e13] at hnew0; have hnew := own_set (g := w2.heap.size) (j := 1) (u := .slice (some ⟨wx.heap.size, 0, none⟩) 13 13) hnew0 (by omega); have BF' := st_same BF0 1 (.slice (some ⟨wx.heap.size, 0, none⟩) 13 13); have BQ' := st_box (g' := w2.heap.size) (j := 1) BQ0 (.slice (some ⟨wx.heap.size, 0, none⟩) 13 13) (by omega); have HR' := Lib.hid (rdr_set (HR.out.kept hgr (by simp)) 1 (.slice (some ⟨wx.heap.size, 0, none⟩) 13 13) hRf); have HG' := Lib.hid (gr_set (HG.out.andThen hgr (by simp)) 1 (.slice (some ⟨wx.heap.size, 0, none⟩) 13 13) hZf); clear hown5 hgr hnew0 e13; have r0 : (w5.setCell ⟨w2.heap.size, 1, none⟩ (.slice (some ⟨wx.heap.size, 0, none⟩) 13 13)).cell? ⟨w2.heap.size, 0, none⟩ = some (.int .i64 a) := box_cell BF' 0; have r1 : (w5.setCell ⟨w2.heap.size, 1, none⟩ (.slice (some ⟨wx.heap.size, 0, none⟩) 13 13)).cell? ⟨w2.heap.size, 1, none⟩ = some (.slice (some ⟨wx.heap.size, 0, none⟩) 13 13) := box_cell BF' 1; have y0 : (w5.setCell ⟨w2.heap.size, 1, none⟩ (.slice (some ⟨wx.heap.size, 0, none⟩) 13 13)).cell? ⟨w.heap.size, 0, none⟩ = some (.int .i64 0) := box_cell BQ' 0; have y1 : (w5.setCell ⟨w2.heap.size, 1, none⟩ (.slice (some ⟨wx.heap.size, 0, none⟩) 13 13)).frozen? ⟨w.heap.size, 0, none⟩ = false := box_free BQ' 0; have BQa := st_same BQ' 0 (.int .i64 a); have y2 : ((w5.setCell ⟨w2.heap.size, 1, none⟩ (.slice (some ⟨wx.heap.size, 0, none⟩) 13 13)).setCell ⟨w.heap.size, 0, none⟩ (.int .i64 a)).cell? ⟨w.heap.size, 1, none⟩ = some (.slice none 0 0) := box_cell BQa 1; have y3 : ((w5.setCell ⟨w2.heap.size, 1, none⟩ (.slice (some ⟨wx.heap.size, 0, none⟩) 13 13)).setCell ⟨w.heap.size, 0, none⟩ (.int .i64 a)).frozen? ⟨w.heap.size, 1, none⟩ = false := box_free BQa 1; have BQb := st_same BQa 1 (.slice (some ⟨wx.heap.size, 0, none⟩) 13 13); have z0 := box_cell BQb 0; have z1 := box_cell BQb 1; have HRf := Lib.hid (rdr_set (rdr_set (HR'.out) 0 (.int .i64 a) hRq) 1 (.slice (some ⟨wx.heap.size, 0, none⟩) 13 13) hRq); have HGf := Lib.hid (gr_set (gr_set (HG'.out) 0 (.int .i64 a) hZq) 1 (.slice (some ⟨wx.heap.size, 0, none⟩) 13 13) hZq); have HOf := Lib.hid ((own_set (g := w.heap.size) (j := 1) (u := .slice (some ⟨wx.heap.size, 0, none⟩) 13 13) (own_set (g := w.heap.size) (j := 0) (u := .int .i64 a) (hnew) (show w.heap.size < w2.heap.size + 1 by omega)) (show w.heap.size < w2.heap.size + 1 by omega)).mono (show w.heap.size ≤ w2.heap.size + 1 by omega)))
          exact bodyPost_ret (v := .agg #[.int .i64 a, .slice (some ⟨wx.heap.size, 0, none⟩) 13 13]) (by simp [results, Tryd.results23, go_sem, z0, z1]) rfl ⟨a, List.replicate 13 0, some ⟨wx.heap.size, 0, none⟩, 13, (by first | rfl | simp), by simp, ⟨by simp, .inr ⟨_, rfl⟩⟩, HOf.out, HRf.out.mono (by omega), HGf.out⟩
end Go.Proofs.YtddiloillgbneaaDoor
