/- The contract of l20Command: some command is drawn. No statement is proved here. -/
import Derived.Test.YtlpgdcmohkacoaaDoorPanE
import Derived.Test.YtlpgdcmohkacoaaDoorAppS
namespace Go.Proofs.YtlpgdcmohkacoaaDoor
open Go.RowKit

theorem set4_cells {g : Nat} {w : World} {z0 z1 z2 z3 : Value} {T : TypeId} (h : Hid (w.heap[g]? = some (.cells #[z0, z1, z2, z3] T (0, 0)))) (a b c d : Value) :
    Hid (((((w.setCell ⟨g, 0, none⟩ a).setCell ⟨g, 1, none⟩ b).setCell ⟨g, 2, none⟩ c).setCell ⟨g, 3, none⟩ d).heap[g]? = some (.cells #[a, b, c, d] T (0, 0))) :=
  st_same (st_same (st_same (st_same h 0 a) 1 b) 2 c) 3 d
theorem far4 {g p : Nat} {w : World} {v a b c d : Value} (h : w.cell? ⟨p, 0, none⟩ = some v) (hne : p ≠ g) : ((((w.setCell ⟨g, 0, none⟩ a).setCell ⟨g, 1, none⟩ b).setCell ⟨g, 2, none⟩ c).setCell ⟨g, 3, none⟩ d).cell? ⟨p, 0, none⟩ = some v := by
  rw [World.cell?_setCell_other _ _ _ _ (by first | (simp; done) | (simp; omega)), World.cell?_setCell_other _ _ _ _ (by first | (simp; done) | (simp; omega)), World.cell?_setCell_other _ _ _ _ (by first | (simp; done) | (simp; omega)), World.cell?_setCell_other _ _ _ _ (by first | (simp; done) | (simp; omega))]; exact h
theorem same_cellP {j k : Nat} (h : k ≠ j) (g : Nat) (W : World) (u : Value) : (W.setCell ⟨g, j, none⟩ u).cell? ⟨g, k, none⟩ = W.cell? ⟨g, k, none⟩ := World.cell?_setCell_other W ⟨g, j, none⟩ ⟨g, k, none⟩ u (by intro e; exact h (congrArg Addr.off e).symm)
theorem keepA {w : World} {a : Addr} {v : Value} (h : w.cell? a = some v) (o : Obj) : (w.alloc o).cell? a = some v := keepC h (allocB (Below.refl _ _) o)
/-- what is kept while a command is drawn -/
def CmdK (w : World) (R base : Nat) (A : Option Addr) (n c : Nat) (on : List Bool) (who i : Int) (tb : Bool) (left : Int) (W : World) : Prop :=
  Hid (W.heap[w.heap.size]? = some (.cells #[.slice A n c, .int .i64 who, .int .i64 i, .bool tb, .int .i64 left] 25 (0, 0))) ∧ Hid (W.heap[w.heap.size + 1]? = some (.cells #[.int .i64 0, .int .i64 0, .int .i64 0, .bool false] 45 (0, 0))) ∧ Hid (W.ownsRow base 4 1 (.slice A n c) n (bools on)) ∧ Hid (w.grownBy W (some R))
theorem CmdK.dr {w : World} {R base n c : Nat} {A : Option Addr} {on : List Bool} {who i left : Int} {tb : Bool} {W W' : World} (h : CmdK w R base A n c on who i tb left W) (hg : W.grownBy W' (some R)) (hR : R < w.heap.size) (hb : R < base) : CmdK w R base A n c on who i tb left W' :=
  ⟨dr_box h.1 hg (by omega), dr_box h.2.1 hg (by omega), row_dr h.2.2.1.out hg hb, h.2.2.2.out.trans hg⟩
theorem CmdK.al {w : World} {R base n c : Nat} {A : Option Addr} {on : List Bool} {who i left : Int} {tb : Bool} {W : World} (h : CmdK w R base A n c on who i tb left W) (o : Obj) : CmdK w R base A n c on who i tb left (W.alloc o) :=
  ⟨al_box h.1 o, al_box h.2.1 o, h.2.2.1.out.alloc o, gr_alloc h.2.2.2.out o⟩
theorem CmdK.st {w : World} {R base n c g j : Nat} {u : Value} {A : Option Addr} {on : List Bool} {who i left : Int} {tb : Bool} {W : World} (h : CmdK w R base A n c on who i tb left W) (hg : w.heap.size + 1 < g) (hne : ∀ k, (Value.slice A n c).ownBlock = some k → k ≠ g) : CmdK w R base A n c on who i tb left (W.setCell ⟨g, j, none⟩ u) :=
  ⟨st_box h.1 u (by omega), st_box h.2.1 u (by omega), row_setN h.2.2.1.out hne, gr_set h.2.2.2.out j u (by omega)⟩
theorem CmdK.drew {w : World} {R base n c : Nat} {A : Option Addr} {on : List Bool} {who i left : Int} {tb : Bool} {W : World} (h : CmdK w R base A n c on who i tb left W) : CmdK w R base A n c on who i tb left W.drew :=
  ⟨h.1, h.2.1, h.2.2.1, Lib.hid ⟨h.2.2.2.out.os, h.2.2.2.out.tape, h.2.2.2.out.output, h.2.2.2.out.size, h.2.2.2.out.block⟩⟩
/-- some command -/
def DrCmd (R f : Nat) (w : World) (e : Ending) (w' : World) : Prop :=
  ∃ (k x y : Int) (b : Bool), e = .returned (.agg #[.int .i64 k, .int .i64 x, .int .i64 y, .bool b]) ∧ Rdr w' R f ∧ w.grownBy w' (some R)
/-- behind the first statement: the command lies in block q -/
def CmdS (w : World) (R base f : Nat) (A : Option Addr) (n c : Nat) (on : List Bool) (who i : Int) (tb : Bool) (left : Int) (q : Nat) (x0 x1 x2 : Int) (b : Bool) (W : World) : Prop :=
  w.heap.size + 1 < q ∧ 0 ≤ x2 ∧ x2 ≤ n ∧ (∀ k, (Value.slice A n c).ownBlock = some k → k ≠ q) ∧ CmdK w R base A n c on who i tb left W ∧ Hid (W.heap[q]? = some (.cells #[.int .i64 x0, .int .i64 x1, .int .i64 x2, .bool b] 45 (0, 0))) ∧ Hid (Rdr W R f)
theorem cmdB {w v : World} {R base f f' q : Nat} {A : Option Addr} {n c : Nat} {on : List Bool} {who i : Int} {tb : Bool} {left : Int} (h : CmdK w R base A n c on who i tb left v) (hB : Hid (v.heap[q]? = some (.cells #[.int .i64 0, .int .i64 0, .int .i64 0, .bool false] 45 (0, 0)))) (hr : Hid (Rdr v R f')) (hf : f' ≤ f) (hR : R < w.heap.size) (hq : Hid (w.heap.size + 1 < q)) (hl : Hid (∀ k, (Value.slice A n c).ownBlock = some k → k < w.heap.size)) {x0 x1 x2 : Int} {b : Bool} (h0 : 0 ≤ x2) (h2 : x2 ≤ n) :
    CmdS w R base f A n c on who i tb left q x0 x1 x2 b ((((v.setCell ⟨q, 0, none⟩ (.int .i64 x0)).setCell ⟨q, 1, none⟩ (.int .i64 x1)).setCell ⟨q, 2, none⟩ (.int .i64 x2)).setCell ⟨q, 3, none⟩ (.bool b)) := by
  have hq := hq.out
  have hne : ∀ k, (Value.slice A n c).ownBlock = some k → k ≠ q := fun k e => by have := hl.out k e; omega
  exact ⟨hq, h0, h2, hne, (((h.st hq hne).st hq hne).st hq hne).st hq hne, set4_cells hB _ _ _ _, Lib.hid (rdr_set (rdr_set (rdr_set (rdr_set (hr.out.mono hf) 0 _ (by omega)) 1 _ (by omega)) 2 _ (by omega)) 3 _ (by omega))⟩
/-- the command's block is laid last -/
theorem cmdL {w v : World} {R base f f' : Nat} {A : Option Addr} {n c : Nat} {on : List Bool} {who i : Int} {tb : Bool} {left : Int} (h : CmdK w R base A n c on who i tb left v) (hr : Hid (Rdr v R f')) (hf : f' ≤ f) (hl : Hid (∀ k, (Value.slice A n c).ownBlock = some k → k < w.heap.size)) {x0 x1 x2 : Int} {b : Bool} (h0 : 0 ≤ x2) (h2 : x2 ≤ n) :
    CmdS w R base f A n c on who i tb left v.heap.size x0 x1 x2 b (v.alloc (.cells #[.int .i64 x0, .int .i64 x1, .int .i64 x2, .bool b] 45)) :=
  ⟨blk_lt h.2.1.out, h0, h2, fun k e => by have := hl.out k e; have := blk_lt h.2.1.out; omega, h.al _, new_box v _, Lib.hid (rdr_alloc (hr.out.mono hf) _)⟩
theorem lit2 {w : World} {g i : Nat} {a b : Int} {T : TypeId} (h : Hid (w.heap[g]? = some (.cells #[.int .i64 a, .int .i64 b] T (0, 0)))) (hi : i < 2) : ∃ v : Int, w.cell? ⟨g, i, none⟩ = some (.int .i64 v) := by
  rw [box_cell h]
  obtain rfl | rfl : i = 0 ∨ i = 1 := by omega
  all_goals exact ⟨_, rfl⟩
theorem lit4 {w : World} {g i : Nat} {a b c d : Int} {T : TypeId} (h : Hid (w.heap[g]? = some (.cells #[.int .i64 a, .int .i64 b, .int .i64 c, .int .i64 d] T (0, 0)))) (hi : i < 4) : ∃ v : Int, w.cell? ⟨g, i, none⟩ = some (.int .i64 v) := by
  rw [box_cell h]
  obtain rfl | rfl | rfl | rfl : i = 0 ∨ i = 1 ∨ i = 2 ∨ i = 3 := by omega
  all_goals exact ⟨_, rfl⟩
theorem cmdEnd {w v : World} {R base f f' : Nat} {A : Option Addr} {n c : Nat} {on : List Bool} {who i : Int} {tb : Bool} {left : Int} (h : CmdK w R base A n c on who i tb left v) (hr : Hid (Rdr v R f')) (hf : f' ≤ f) (hR : R < w.heap.size) {k x y : Int} {b : Bool} :
    DrCmd R f w (.returned (.agg #[.int .i64 k, .int .i64 x, .int .i64 y, .bool b])) ((((v.setCell ⟨w.heap.size + 1, 0, none⟩ (.int .i64 k)).setCell ⟨w.heap.size + 1, 1, none⟩ (.int .i64 x)).setCell ⟨w.heap.size + 1, 2, none⟩ (.int .i64 y)).setCell ⟨w.heap.size + 1, 3, none⟩ (.bool b)) :=
  ⟨k, x, y, b, rfl, rdr_set (rdr_set (rdr_set (rdr_set (hr.out.mono hf) 0 _ (by omega)) 1 _ (by omega)) 2 _ (by omega)) 3 _ (by omega), gr_set (gr_set (gr_set (gr_set h.2.2.2.out 0 _ (by omega)) 1 _ (by omega)) 2 _ (by omega)) 3 _ (by omega)⟩
theorem farJ {g p j i : Nat} {w : World} {v u : Value} (h : w.cell? ⟨p, i, none⟩ = some v) (hne : p ≠ g) : (w.setCell ⟨g, j, none⟩ u).cell? ⟨p, i, none⟩ = some v := by
  rw [World.cell?_setCell_other _ _ _ _ (by first | (simp; done) | (simp; omega))]; exact h
theorem far43 {g p : Nat} {w : World} {x y z a b c d : Value} (h : w.cell? ⟨p, 1, none⟩ = some x ∧ w.cell? ⟨p, 2, none⟩ = some y ∧ w.cell? ⟨p, 3, none⟩ = some z) (hne : p ≠ g) : ((((w.setCell ⟨g, 0, none⟩ a).setCell ⟨g, 1, none⟩ b).setCell ⟨g, 2, none⟩ c).setCell ⟨g, 3, none⟩ d).cell? ⟨p, 1, none⟩ = some x ∧ ((((w.setCell ⟨g, 0, none⟩ a).setCell ⟨g, 1, none⟩ b).setCell ⟨g, 2, none⟩ c).setCell ⟨g, 3, none⟩ d).cell? ⟨p, 2, none⟩ = some y ∧ ((((w.setCell ⟨g, 0, none⟩ a).setCell ⟨g, 1, none⟩ b).setCell ⟨g, 2, none⟩ c).setCell ⟨g, 3, none⟩ d).cell? ⟨p, 3, none⟩ = some z :=
  ⟨farJ (farJ (farJ (farJ h.1 hne) hne) hne) hne, farJ (farJ (farJ (farJ h.2.1 hne) hne) hne) hne, farJ (farJ (farJ (farJ h.2.2 hne) hne) hne) hne⟩
theorem keep3 {w : World} {a b c : Addr} {x y z : Value} (h : w.cell? a = some x ∧ w.cell? b = some y ∧ w.cell? c = some z) (o : Obj) : (w.alloc o).cell? a = some x ∧ (w.alloc o).cell? b = some y ∧ (w.alloc o).cell? c = some z := ⟨keepA h.1 o, keepA h.2.1 o, keepA h.2.2 o⟩
set_option maxRecDepth 100000 in
set_option maxHeartbeats 8000000 in
theorem drCmd (R f : Nat) (base : Nat) (A : Option Addr) (n c : Nat) (on : List Bool) (who i : Int) (tb : Bool) (left : Int) (w : World) (hr : Rdr w R f) (hf : f ≤ 900000) (hrow : w.ownsRow base 4 1 (.slice A n c) n (bools on)) (hb : R < base) (hn : on.length = n) (h1 : 1 ≤ n) (hm : n ≤ 1000) :
    Calls Tryd.prog 15 #[.pointer (some ⟨R, 0, none⟩), .agg #[.slice A n c, .int .i64 who, .int .i64 i, .bool tb, .int .i64 left]] w (DrCmd R (f + 9) w) := by
  have hRw : R < w.heap.size := hr.lt
  have hlt : ∀ k, (Value.slice A n c).ownBlock = some k → k < w.heap.size := fun k e => (hrow.lt k e).2
  have HLT := Lib.hid hlt; have HN := Lib.hid hn
  have HR := Lib.hid hr; have HW := Lib.hid hrow; clear hr hrow hlt hn
  have HG := Lib.hid (gr_refl w R)
  have HL : Hid (R < w.heap.size) := hRw
  go_enter Tryd.func15, Tryd.ntmps15
  replace HR := Lib.hid (rdr_alloc HR.out (.cells #[.slice A n c, .int .i64 who, .int .i64 i, .bool tb, .int .i64 left] 25))
  have B_p := new_box w (.cells #[.slice A n c, .int .i64 who, .int .i64 i, .bool tb, .int .i64 left] 25)
  have Z_p : w.heap.size ≤ w.heap.size := by have := HG.out.size; first | omega | (simp at this; omega) | (simp at this ⊢; omega)
  have N_p : R < w.heap.size := by have := HL.out; omega
  replace HG := Lib.hid (gr_alloc HG.out (.cells #[.slice A n c, .int .i64 who, .int .i64 i, .bool tb, .int .i64 left] 25))
  have M0_p := blk_lt B_p.out
  replace M0_p : w.heap.size < (w.heap.size + 1) := by first | (simp; done) | (simp; omega) | omega
  replace B_p := al_box B_p (.cells #[.int .i64 0, .int .i64 0, .int .i64 0, .bool false] 45)
  replace HR := Lib.hid (rdr_alloc HR.out (.cells #[.int .i64 0, .int .i64 0, .int .i64 0, .bool false] 45))
  have B_r := new_box (w.alloc (.cells #[.slice A n c, .int .i64 who, .int .i64 i, .bool tb, .int .i64 left] 25)) (.cells #[.int .i64 0, .int .i64 0, .int .i64 0, .bool false] 45)
  replace B_r : Hid (((w.alloc (.cells #[.slice A n c, .int .i64 who, .int .i64 i, .bool tb, .int .i64 left] 25)).alloc (.cells #[.int .i64 0, .int .i64 0, .int .i64 0, .bool false] 45)).heap[(w.heap.size + 1)]? = some (.cells #[.int .i64 0, .int .i64 0, .int .i64 0, .bool false] 45 (0, 0))) := by have := B_r.out; rw [Hid]; simpa using this
  have Z_r : w.heap.size ≤ (w.heap.size + 1) := by have := HG.out.size; first | omega | (simp at this; omega) | (simp at this ⊢; omega)
  have N_r : R < (w.heap.size + 1) := by have := HL.out; omega
  have M_p_r : w.heap.size < (w.heap.size + 1) := M0_p
  replace HG := Lib.hid (gr_alloc HG.out (.cells #[.int .i64 0, .int .i64 0, .int .i64 0, .bool false] 45))
  replace HW := Lib.hid ((HW.out.alloc (.cells #[.slice A n c, .int .i64 who, .int .i64 i, .bool tb, .int .i64 left] 25)).alloc (.cells #[.int .i64 0, .int .i64 0, .int .i64 0, .bool false] 45))
  have HK : Hid (CmdK w R base A n c on who i tb left ((w.alloc (.cells #[.slice A n c, .int .i64 who, .int .i64 i, .bool tb, .int .i64 left] 25)).alloc (.cells #[.int .i64 0, .int .i64 0, .int .i64 0, .bool false] 45))) := ⟨B_p, B_r, HW, HG⟩
  clear HW HG M_p_r Z_p Z_r N_p N_r M0_p
  have c_p_0 : ((w.alloc (.cells #[.slice A n c, .int .i64 who, .int .i64 i, .bool tb, .int .i64 left] 25)).alloc (.cells #[.int .i64 0, .int .i64 0, .int .i64 0, .bool false] 45)).cell? ⟨w.heap.size, 0, none⟩ = some (.slice A n c) := box_cell B_p 0
  go_upto_region 1 with fail
  generalize ((w.alloc (.cells #[.slice A n c, .int .i64 who, .int .i64 i, .bool tb, .int .i64 left] 25)).alloc (.cells #[.int .i64 0, .int .i64 0, .int .i64 0, .bool false] 45)) = W1 at *
  have hn0 : (0 : Int) ≤ (n : Int) := by omega
  have hnw : IntKind.i64.wrap ((n : Int) + 1) = (n : Int) + 1 := IntWalk.i64_in _ (by omega)
  go_cut [5] from 6 (fun s5 wx => ∃ (q : Nat) (x0 x1 x2 : Int) (b : Bool), s5 = .pointer (some ⟨q, 0, none⟩) ∧ CmdS w R base (f + 4) A n c on who i tb left q x0 x1 x2 b wx)
  case first =>
    have hcd : W1.drew.cell? ⟨w.heap.size, 0, none⟩ = some (.slice A n c) := c_p_0
    have HRd : Hid (Rdr W1.drew R f) := HR
    have hW1d : w.heap.size + 1 < W1.drew.heap.size := blk_lt HK.out.2.1.out
    have hRw : R < w.heap.size := HL.out
    have hW1 : w.heap.size + 1 < W1.heap.size := blk_lt HK.2.1.out
    have HRc := HRd
    have HKc := HK.drew
    clear HRd
    go_region_held3 (fun W => W.cell? ⟨w.heap.size, 0, none⟩ = some (.slice A n c)) (first | (with_reducible exact cS) | with_reducible exact keepA (by assumption) _ | with_reducible exact far4 (by assumption) (by simp; omega) | go_keep) (first | (go_at_call 13; have Bq' := Bq; clear Bq; refine (pickC R _ _ _ (by with_reducible exact HRc.out) (by omega) (by omega)).mono ?_; rintro e v ⟨x, rfl, hx, hR, hg⟩; have HKn := HKc.dr hg hRw hb; have Bq := dr_box Bq' hg (by omega); clear Bq'; have k0 := box_cell Bq 0; have k1 := box_cell Bq 1; have k2 := box_cell Bq 2; have k3 := box_cell Bq 3; have y0 := box_free Bq 0; have y1 := box_free Bq 1; have y2 := box_free Bq 2; have y3 := box_free Bq 3; simp at k0 k1 k2 k3; have cS : v.cell? ⟨w.heap.size, 0, none⟩ = some (.slice A n c) := box_cell HKn.1 0; clear HRc HKc; have HRc := Lib.hid hR; have HKc := HKn; clear hR hg HKn) | (go_at_call 13; refine (pickC R _ _ _ (by with_reducible exact HRc.out) (by omega) (by omega)).mono ?_; rintro e v ⟨x, rfl, hx, hR, hg⟩; have HKn := HKc.dr hg hRw hb; skip; have cS : v.cell? ⟨w.heap.size, 0, none⟩ = some (.slice A n c) := box_cell HKn.1 0; clear HRc HKc; have HRc := Lib.hid hR; have HKc := HKn; clear hR hg HKn) | (go_at_call 13; refine (pickC R _ _ _ (by exact rdr_alloc HRc.out (.cells #[.int .i64 0, .int .i64 0, .int .i64 0, .bool false] 45)) (by omega) (by omega)).mono ?_; rintro e v ⟨x, rfl, hx, hR, hg⟩; have HKn := (HKc.al (.cells #[.int .i64 0, .int .i64 0, .int .i64 0, .bool false] 45)).dr hg hRw hb; have hq := blk_lt HKc.2.1.out; have hq' := Lib.hid hq; have Bq := dr_box (new_box _ (.cells #[.int .i64 0, .int .i64 0, .int .i64 0, .bool false] 45)) hg (by omega); have k0 := box_cell Bq 0; have k1 := box_cell Bq 1; have k2 := box_cell Bq 2; have k3 := box_cell Bq 3; have y0 := box_free Bq 0; have y1 := box_free Bq 1; have y2 := box_free Bq 2; have y3 := box_free Bq 3; simp at k0 k1 k2 k3; have cS : v.cell? ⟨w.heap.size, 0, none⟩ = some (.slice A n c) := box_cell HKn.1 0; clear HRc HKc; have HRc := Lib.hid hR; have HKc := HKn; clear hR hg HKn) | (go_at_call 13; refine (pickC R _ _ _ (by exact (show Rdr ((W1.alloc (.cells #[.int .i64 0, .int .i64 0, .int .i64 0, .bool false] 45)).drew) R f from rdr_alloc HR.out (.cells #[.int .i64 0, .int .i64 0, .int .i64 0, .bool false] 45))) (by omega) (by omega)).mono ?_; rintro e v ⟨x, rfl, hx, hR, hg⟩; have HKn := (HK.al (.cells #[.int .i64 0, .int .i64 0, .int .i64 0, .bool false] 45)).drew.dr hg hRw hb; have hq := hW1; have hq' := Lib.hid hq; have Bq := dr_box (show Hid (((W1.alloc (.cells #[.int .i64 0, .int .i64 0, .int .i64 0, .bool false] 45)).drew).heap[W1.heap.size]? = some (.cells #[.int .i64 0, .int .i64 0, .int .i64 0, .bool false] 45 (0, 0))) from new_box W1 (.cells #[.int .i64 0, .int .i64 0, .int .i64 0, .bool false] 45)) hg (by omega); have k0 := box_cell Bq 0; have k1 := box_cell Bq 1; have k2 := box_cell Bq 2; have k3 := box_cell Bq 3; have y0 := box_free Bq 0; have y1 := box_free Bq 1; have y2 := box_free Bq 2; have y3 := box_free Bq 3; simp at k0 k1 k2 k3; have cS : v.cell? ⟨w.heap.size, 0, none⟩ = some (.slice A n c) := box_cell HKn.1 0; clear HRc HKc; have HRc := Lib.hid hR; have HKc := HKn; clear hR hg HKn))
    all_goals
      go_wp2_with fail
      go_meet
      case rel => first | exact ⟨_, _, _, _, _, rfl, cmdB HKc Bq HRc (by omega) hRw hq' HLT (by omega) (by omega)⟩ | exact ⟨_, _, _, _, _, rfl, cmdL HKc HRc (by omega) HLT (by omega) (by omega)⟩
  case rest =>
    obtain ⟨q, x0, x1, x2, b, rfl, hq, hx0, hxn, hne, HK, HC, HRc⟩ := hcut
    have HNE := Lib.hid hne
    clear hne B_p B_r HR c_p_0 hnw
    go_upto_region 2 with fail
    go_cut [28] from 29 (fun s28 wx => ∃ b2 : Bool, s28 = .bool b2 ∧ CmdS w R base (f + 5) A n c on who i tb left q x0 x1 x2 b wx)
    case first =>
      go_wp2_with fail
      refine (pickC R _ 2 _ HRc.out (by omega) (by omega)).mono ?_
      rintro e w2 ⟨y, rfl, hy, hR, hg⟩
      replace HK := HK.dr hg HL.out hb
      replace HC := dr_box HC hg (by have := HL.out; omega)
      replace HRc := Lib.hid (hR.mono (show _ ≤ f + 5 by omega))
      clear hR hg
      have p0 : w2.cell? ⟨w.heap.size, 0, none⟩ = some (.slice A n c) := box_cell HK.1 0
      cases e0 : ((y : Int) == 0) with
      | true =>
        go_wp2_with fail
        go_meet
        case rel => exact ⟨_, rfl, hq, hx0, hxn, HNE.out, HK, HC, HRc⟩
      | false =>
        go_wp2_with fail
        go_meet
        case rel => exact ⟨_, rfl, hq, hx0, hxn, HNE.out, HK, HC, HRc⟩
    case rest =>
      obtain ⟨b2, rfl, _, _, _, _, HK, HC, HRc⟩ := hcut
      go_upto_if 28 with (fail)
      go_cut [] from 29 (fun wx => ∃ (x : Int) (b' : Bool), CmdS w R base (f + 5) A n c on who i tb left q x0 x1 x b' wx)
      case first =>
        cases b2 with
        | false =>
          go_wp2_with fail
          go_meet
          case rel => exact ⟨_, _, hq, hx0, hxn, HNE.out, HK, HC, HRc⟩
        | true =>
          obtain ⟨ga, rfl, hga⟩ := row_addr HK.2.2.1.out (by omega)
          have p0 : wc.cell? ⟨w.heap.size, 0, none⟩ = some (.slice (some ⟨ga, 0, none⟩) n c) := box_cell HK.1 0
          have k2 : wc.cell? ⟨q, 2, none⟩ = some (.int .i64 x2) := box_cell HC 2
          have y2 : wc.frozen? ⟨q, 2, none⟩ = false := box_free HC 2
          have hnz : (n : Int) ≠ 0 := by omega
          have hmod : 0 ≤ x2 % (n : Int) ∧ x2 % (n : Int) < n := ⟨Int.emod_nonneg _ hnz, Int.emod_lt_of_pos _ (by omega)⟩
          have HC2 := st_same HC 2 (.int .i64 (x2 % (n : Int)))
          have HK2 := HK.st (j := 2) (u := .int .i64 (x2 % (n : Int))) hq HNE.out
          have HR2 := Lib.hid (rdr_set HRc.out 2 (.int .i64 (x2 % (n : Int))) (show R < q by omega))
          obtain ⟨ba, oa, e9, _, h9⟩ := (rd_of_row HK2.2.2.1.out).bool (k := (x2 % (n : Int)).toNat) (by rw [HN.out]; omega)
          cases e9
          rw [Nat.zero_add] at h9
          generalize on.getD (x2 % (n : Int)).toNat false = v9 at h9
          have k3 := box_cell HC2 3
          have y3 := box_free HC2 3
          have HC3 := st_same HC2 3 (.bool (!v9))
          have HK3 := HK2.st (j := 3) (u := .bool (!v9)) hq HNE.out
          have HR3 := Lib.hid (rdr_set HR2.out 3 (.bool (!v9)) (show R < q by omega))
          have hmz := hmod.1; have hml := hmod.2; clear hmod
          go_wp2_with fail
          go_meet
          case rel => exact ⟨_, _, hq, hmz, by omega, HNE.out, HK3, HC3, HR3⟩
      case rest =>
        obtain ⟨x3, b3, _, hx30, hx3n, _, HK, HC, HRc⟩ := hcut
        go_upto_region 5 with fail
        go_cut [51] from 52 (fun s51 wx => ∃ b5 : Bool, s51 = .bool b5 ∧ CmdS w R base (f + 6) A n c on who i tb left q x0 x1 x3 b3 wx)
        case first =>
          have p1 : wc.cell? ⟨w.heap.size, 1, none⟩ = some (.int .i64 who) := box_cell HK.1 1
          cases ew : decide (0 ≤ who) with
          | false =>
            go_wp2_with fail
            go_meet
            case rel => exact ⟨_, rfl, hq, hx30, hx3n, HNE.out, HK, HC, Lib.hid (HRc.out.mono (by omega))⟩
          | true =>
            go_wp2_with fail
            refine (pickC R _ 3 _ HRc.out (by omega) (by omega)).mono ?_
            rintro e w2 ⟨y, rfl, hy, hR, hg⟩
            replace HK := HK.dr hg HL.out hb
            replace HC := dr_box HC hg (by have := HL.out; omega)
            replace HRc := Lib.hid (hR.mono (show _ ≤ f + 6 by omega))
            clear hR hg
            go_wp2_with fail
            go_meet
            case rel => exact ⟨_, rfl, hq, hx30, hx3n, HNE.out, HK, HC, HRc⟩
        case rest =>
          obtain ⟨b5, rfl, _, _, _, _, HK, HC, HRc⟩ := hcut
          cases b5 with
          | true =>
            go_upto_region 6 with fail
            have HRd : Hid (Rdr wc.drew R (f + 6)) := HRc
            have HKd : CmdK w R base A n c on who i tb left wc.drew := HK.drew
            have HRe : Hid (Rdr (wc.alloc (.cells #[.int .i64 1, .int .i64 1, .int .i64 2, .int .i64 3] 3)).drew R (f + 6)) := Lib.hid (rdr_alloc HRc.out (.cells #[.int .i64 1, .int .i64 1, .int .i64 2, .int .i64 3] 3))
            have HKe : CmdK w R base A n c on who i tb left (wc.alloc (.cells #[.int .i64 1, .int .i64 1, .int .i64 2, .int .i64 3] 3)).drew := (HK.al (.cells #[.int .i64 1, .int .i64 1, .int .i64 2, .int .i64 3] 3)).drew
            have HLe : Hid ((wc.alloc (.cells #[.int .i64 1, .int .i64 1, .int .i64 2, .int .i64 3] 3)).drew.heap[wc.heap.size]? = some (.cells #[.int .i64 1, .int .i64 1, .int .i64 2, .int .i64 3] 3 (0, 0))) := new_box wc (.cells #[.int .i64 1, .int .i64 1, .int .i64 2, .int .i64 3] 3)
            have hRx := HRc.out.lt
            have hcd : wc.drew.cell? ⟨w.heap.size, 1, none⟩ = some (.int .i64 who) ∧ wc.drew.cell? ⟨w.heap.size, 2, none⟩ = some (.int .i64 i) ∧ wc.drew.cell? ⟨w.heap.size, 3, none⟩ = some (.bool tb) := ⟨box_cell HK.1 1, box_cell HK.1 2, box_cell HK.1 3⟩
            have hce : (wc.alloc (.cells #[.int .i64 1, .int .i64 1, .int .i64 2, .int .i64 3] 3)).drew.cell? ⟨w.heap.size, 1, none⟩ = some (.int .i64 who) ∧ (wc.alloc (.cells #[.int .i64 1, .int .i64 1, .int .i64 2, .int .i64 3] 3)).drew.cell? ⟨w.heap.size, 2, none⟩ = some (.int .i64 i) ∧ (wc.alloc (.cells #[.int .i64 1, .int .i64 1, .int .i64 2, .int .i64 3] 3)).drew.cell? ⟨w.heap.size, 3, none⟩ = some (.bool tb) := ⟨box_cell HKe.1 1, box_cell HKe.1 2, box_cell HKe.1 3⟩
            clear HK HC HRc HNE
            refine wp_region_held_drew (S := (fun W => W.cell? ⟨w.heap.size, 1, none⟩ = some (.int .i64 who) ∧ W.cell? ⟨w.heap.size, 2, none⟩ = some (.int .i64 i) ∧ W.cell? ⟨w.heap.size, 3, none⟩ = some (.bool tb))) (by kernel_rfl) hcd (fun hHeld => ?_)
            refine wpAnyH_take (i := 1) (v := ?v1) rfl (by kernel_rfl) (by kernel_rfl) (by kernel_rfl) (fun _ _ _ h => h) (Or.inl ⟨by rfl, ?h1⟩) (by assumption) ?r1
            case h1 => (intro w0 hSw; (try dsimp only at hSw); go_simp; try with_reducible rfl)
            (try simp only [Act.put]); (try simp only [List.setIfInBounds_toArray]); (try simp only [List.set_cons_succ]); (try simp only [List.set_cons_zero])
            refine wpAnyH_take (i := 5) (v := ?v2) rfl (by kernel_rfl) (by kernel_rfl) (by kernel_rfl) (fun _ _ _ h => h) (Or.inl ⟨by rfl, ?h2⟩) (by assumption) ?r2
            case h2 => (intro w0 hSw; (try dsimp only at hSw); go_simp; try with_reducible rfl)
            (try simp only [Act.put]); (try simp only [List.setIfInBounds_toArray]); (try simp only [List.set_cons_succ]); (try simp only [List.set_cons_zero])
            refine wpAnyH_take (i := 6) (v := ?v3) rfl (by kernel_rfl) (by kernel_rfl) (by kernel_rfl) (fun _ _ _ h => h) (Or.inl ⟨by rfl, ?h3⟩) (by assumption) ?r3
            case h3 => (intro w0 hSw; (try dsimp only at hSw); go_simp; try with_reducible rfl)
            (try simp only [Act.put]); (try simp only [List.setIfInBounds_toArray]); (try simp only [List.set_cons_succ]); (try simp only [List.set_cons_zero])
            refine wpAnyH_take (i := 7) (v := ?v4) rfl (by kernel_rfl) (by kernel_rfl) (by kernel_rfl) (fun _ _ _ h => h) (Or.inl ⟨by rfl, ?h4⟩) (by assumption) ?r4
            case h4 => (intro w0 hSw; (try dsimp only at hSw); go_simp; try with_reducible rfl)
            (try simp only [Act.put]); (try simp only [List.setIfInBounds_toArray]); (try simp only [List.set_cons_succ]); (try simp only [List.set_cons_zero])
            refine wpAnyH_take (i := 8) (v := ?v5) rfl (by kernel_rfl) (by kernel_rfl) (by kernel_rfl) (fun _ _ _ h => h) (Or.inl ⟨by rfl, ?h5⟩) (by assumption) ?r5
            case h5 => (intro w0 hSw; (try dsimp only at hSw); go_simp; try with_reducible rfl)
            (try simp only [Act.put]); (try simp only [List.setIfInBounds_toArray]); (try simp only [List.set_cons_succ]); (try simp only [List.set_cons_zero])
            refine wpAnyH_take (i := 9) (v := ?v6) rfl (by kernel_rfl) (by kernel_rfl) (by kernel_rfl) (fun _ _ _ h => h) (Or.inl ⟨by rfl, ?h6⟩) (by assumption) ?r6
            case h6 => (intro w0 hSw; (try dsimp only at hSw); go_simp; try with_reducible rfl)
            (try simp only [Act.put]); (try simp only [List.setIfInBounds_toArray]); (try simp only [List.set_cons_succ]); (try simp only [List.set_cons_zero])
            refine wpAnyH_take (i := 10) (v := ?v7) rfl (by kernel_rfl) (by kernel_rfl) (by kernel_rfl) (fun _ _ _ h => h) (Or.inl ⟨by rfl, ?h7⟩) (by assumption) ?r7
            case h7 => (intro w0 hSw; (try dsimp only at hSw); go_simp; try with_reducible rfl)
            (try simp only [Act.put]); (try simp only [List.setIfInBounds_toArray]); (try simp only [List.set_cons_succ]); (try simp only [List.set_cons_zero])
            refine wpAnyH_ready (rs := [0, 2]) (by kernel_rfl) (by simp) ?_
            refine AllReadyH.cons rfl (fun K hK => ?_) (AllReadyH.cons rfl (fun K hK => ?_) AllReadyH.nil)
            · skip
              go_simp
              refine hK.out _ _ (hce) (fun hHeld2 => ?_)
              clear hK K hHeld; have hHeld := hHeld2; clear hHeld2
              (try simp only [Act.put]); (try simp only [List.setIfInBounds_toArray]); (try simp only [List.set_cons_succ]); (try simp only [List.set_cons_zero])
              refine wpAnyH_ready (rs := [2]) (by kernel_rfl) (by simp) ?_
              refine AllReadyH.cons rfl (fun K hK => ?_) AllReadyH.nil
              go_simp
              go_at_call 13; refine (pickC R _ 4 _ (by with_reducible exact HRe.out) (by omega) (by omega)).mono ?_; rintro e v ⟨y, rfl, hy, hR, hg⟩; have HKn := HKe.dr hg HL.out hb; have cS : v.cell? ⟨w.heap.size, 1, none⟩ = some (.int .i64 who) ∧ v.cell? ⟨w.heap.size, 2, none⟩ = some (.int .i64 i) ∧ v.cell? ⟨w.heap.size, 3, none⟩ = some (.bool tb) := ⟨box_cell HKn.1 1, box_cell HKn.1 2, box_cell HKn.1 3⟩; have hy4 : (y : Int) < 4 := (by omega); obtain ⟨x9, hx9⟩ := lit4 (dr_box HLe hg (by omega)) (show y < 4 by omega); have HKz := HKn; have HRz := Lib.hid (hR); have k0 := box_cell HKz.2.1 0; have y0 := box_free HKz.2.1 0; simp at k0; have k1 := box_cell HKz.2.1 1; have y1 := box_free HKz.2.1 1; simp at k1; have k2 := box_cell HKz.2.1 2; have y2 := box_free HKz.2.1 2; simp at k2; have k3 := box_cell HKz.2.1 3; have y3 := box_free HKz.2.1 3; simp at k3; have HZ := set4_cells HKz.2.1 (.int .i64 x9) (.int .i64 who) (.int .i64 i) (.bool tb); have z0 := box_cell HZ 0; have z1 := box_cell HZ 1; have z2 := box_cell HZ 2; have z3 := box_cell HZ 3; simp at z0 z1 z2 z3; clear hR hg hy HKn HRd HKd HRe HKe HLe HZ
              refine hK.out _ _ (cS) (fun hHeld2 => ?_)
              clear hK K hHeld; have hHeld := hHeld2; clear hHeld2
              (try simp only [Act.put]); (try simp only [List.setIfInBounds_toArray]); (try simp only [List.set_cons_succ]); (try simp only [List.set_cons_zero])
              refine wpAnyH_ready (rs := [3]) (by kernel_rfl) (by simp) ?_
              refine AllReadyH.cons rfl (fun K hK => ?_) AllReadyH.nil
              go_simp
              refine hK.out _ _ (cS) (fun hHeld2 => ?_)
              clear hK K hHeld; have hHeld := hHeld2; clear hHeld2
              (try simp only [Act.put]); (try simp only [List.setIfInBounds_toArray]); (try simp only [List.set_cons_succ]); (try simp only [List.set_cons_zero])
              refine wpAnyH_ready (rs := [4]) (by kernel_rfl) (by simp) ?_
              refine AllReadyH.cons rfl (fun K hK => ?_) AllReadyH.nil
              go_simp
              refine hK.out _ _ (cS) (fun hHeld2 => ?_)
              clear hK K hHeld; have hHeld := hHeld2; clear hHeld2
              (try simp only [Act.put]); (try simp only [List.setIfInBounds_toArray]); (try simp only [List.set_cons_succ]); (try simp only [List.set_cons_zero])
              refine wpAnyH_take (i := 11) (v := ?v8) rfl (by kernel_rfl) (by kernel_rfl) (by kernel_rfl) (fun _ _ _ h => h) (Or.inl ⟨by rfl, ?h8⟩) (by assumption) ?r8
              case h8 => (intro w0 hSw; (try dsimp only at hSw); go_simp; try with_reducible rfl)
              (try simp only [Act.put]); (try simp only [List.setIfInBounds_toArray]); (try simp only [List.set_cons_succ]); (try simp only [List.set_cons_zero])
              refine wpAnyH_ready (rs := [12]) (by kernel_rfl) (by simp) ?_
              refine AllReadyH.cons rfl (fun K hK => ?_) AllReadyH.nil
              go_simp
              refine hK.out _ _ (far43 (cS) (by omega)) (fun hHeld2 => ?_)
              clear hK K hHeld; have hHeld := hHeld2; clear hHeld2
              (try simp only [Act.put]); (try simp only [List.setIfInBounds_toArray]); (try simp only [List.set_cons_succ]); (try simp only [List.set_cons_zero])
              refine wpAnyH_done (by kernel_rfl) ?_ _
              go_wp2_with fail
              exact bodyPost_ret (v := .agg #[.int .i64 x9, .int .i64 who, .int .i64 i, .bool tb]) (by simp [results, Tryd.results15, go_sem, z0, z1, z2, z3]) rfl (cmdEnd HKz HRz (by omega) HL.out)
            · skip
              go_simp
              go_at_call 13; refine (pickC R _ 4 _ (by with_reducible exact HRd.out) (by omega) (by omega)).mono ?_; rintro e v ⟨y, rfl, hy, hR, hg⟩; have HKn := HKd.dr hg HL.out hb; have cS : v.cell? ⟨w.heap.size, 1, none⟩ = some (.int .i64 who) ∧ v.cell? ⟨w.heap.size, 2, none⟩ = some (.int .i64 i) ∧ v.cell? ⟨w.heap.size, 3, none⟩ = some (.bool tb) := ⟨box_cell HKn.1 1, box_cell HKn.1 2, box_cell HKn.1 3⟩; have hy4 : (y : Int) < 4 := (by omega); obtain ⟨x9, hx9⟩ := lit4 (new_box v (.cells #[.int .i64 1, .int .i64 1, .int .i64 2, .int .i64 3] 3)) (show y < 4 by omega); have HKz := HKn.al (.cells #[.int .i64 1, .int .i64 1, .int .i64 2, .int .i64 3] 3); have HRz := Lib.hid (rdr_alloc hR (.cells #[.int .i64 1, .int .i64 1, .int .i64 2, .int .i64 3] 3)); have k0 := box_cell HKz.2.1 0; have y0 := box_free HKz.2.1 0; simp at k0; have k1 := box_cell HKz.2.1 1; have y1 := box_free HKz.2.1 1; simp at k1; have k2 := box_cell HKz.2.1 2; have y2 := box_free HKz.2.1 2; simp at k2; have k3 := box_cell HKz.2.1 3; have y3 := box_free HKz.2.1 3; simp at k3; have HZ := set4_cells HKz.2.1 (.int .i64 x9) (.int .i64 who) (.int .i64 i) (.bool tb); have z0 := box_cell HZ 0; have z1 := box_cell HZ 1; have z2 := box_cell HZ 2; have z3 := box_cell HZ 3; simp at z0 z1 z2 z3; clear hR hg hy HKn HRd HKd HRe HKe HLe HZ
              refine hK.out _ _ (cS) (fun hHeld2 => ?_)
              clear hK K hHeld; have hHeld := hHeld2; clear hHeld2
              (try simp only [Act.put]); (try simp only [List.setIfInBounds_toArray]); (try simp only [List.set_cons_succ]); (try simp only [List.set_cons_zero])
              refine wpAnyH_ready (rs := [0]) (by kernel_rfl) (by simp) ?_
              refine AllReadyH.cons rfl (fun K hK => ?_) AllReadyH.nil
              go_simp
              refine hK.out _ _ (keep3 cS _) (fun hHeld2 => ?_)
              clear hK K hHeld; have hHeld := hHeld2; clear hHeld2
              (try simp only [Act.put]); (try simp only [List.setIfInBounds_toArray]); (try simp only [List.set_cons_succ]); (try simp only [List.set_cons_zero])
              refine wpAnyH_ready (rs := [3]) (by kernel_rfl) (by simp) ?_
              refine AllReadyH.cons rfl (fun K hK => ?_) AllReadyH.nil
              go_simp
              refine hK.out _ _ (keep3 cS _) (fun hHeld2 => ?_)
              clear hK K hHeld; have hHeld := hHeld2; clear hHeld2
              (try simp only [Act.put]); (try simp only [List.setIfInBounds_toArray]); (try simp only [List.set_cons_succ]); (try simp only [List.set_cons_zero])
              refine wpAnyH_ready (rs := [4]) (by kernel_rfl) (by simp) ?_
              refine AllReadyH.cons rfl (fun K hK => ?_) AllReadyH.nil
              go_simp
              refine hK.out _ _ (keep3 cS _) (fun hHeld2 => ?_)
              clear hK K hHeld; have hHeld := hHeld2; clear hHeld2
              (try simp only [Act.put]); (try simp only [List.setIfInBounds_toArray]); (try simp only [List.set_cons_succ]); (try simp only [List.set_cons_zero])
              refine wpAnyH_take (i := 11) (v := ?v9) rfl (by kernel_rfl) (by kernel_rfl) (by kernel_rfl) (fun _ _ _ h => h) (Or.inl ⟨by rfl, ?h9⟩) (by assumption) ?r9
              case h9 => (intro w0 hSw; (try dsimp only at hSw); go_simp; try with_reducible rfl)
              (try simp only [Act.put]); (try simp only [List.setIfInBounds_toArray]); (try simp only [List.set_cons_succ]); (try simp only [List.set_cons_zero])
              refine wpAnyH_ready (rs := [12]) (by kernel_rfl) (by simp) ?_
              refine AllReadyH.cons rfl (fun K hK => ?_) AllReadyH.nil
              go_simp
              refine hK.out _ _ (far43 (keep3 cS _) (by omega)) (fun hHeld2 => ?_)
              clear hK K hHeld; have hHeld := hHeld2; clear hHeld2
              (try simp only [Act.put]); (try simp only [List.setIfInBounds_toArray]); (try simp only [List.set_cons_succ]); (try simp only [List.set_cons_zero])
              refine wpAnyH_done (by kernel_rfl) ?_ _
              go_wp2_with fail
              exact bodyPost_ret (v := .agg #[.int .i64 x9, .int .i64 who, .int .i64 i, .bool tb]) (by simp [results, Tryd.results15, go_sem, z0, z1, z2, z3]) rfl (cmdEnd HKz HRz (by omega) HL.out)
          | false =>
            go_wp2_with fail
            refine (oddC R _ 30 _ HRc.out (by omega) (by omega) (by omega)).mono ?_
            rintro e w2 ⟨y, rfl, hR, hg⟩
            replace HK := HK.dr hg HL.out hb
            replace HC := dr_box HC hg (by have := HL.out; omega)
            replace HRc := Lib.hid (hR.mono (show _ ≤ f + 7 by omega))
            clear hR hg
            go_upto_if 65 with (fail)
            go_cut [] from 66 (fun wx => ∃ x : Int, CmdS w R base (f + 8) A n c on who i tb left q x x1 x3 b3 wx)
            case first =>
              cases y with
              | false =>
                go_wp2_with fail
                go_meet
                case rel => exact ⟨_, hq, hx30, hx3n, HNE.out, HK, HC, Lib.hid (HRc.out.mono (by omega))⟩
              | true =>
                have HRa := Lib.hid (rdr_alloc HRc.out (.cells #[.int .i64 (-1), .int .i64 4] 3))
                have hRx := HRc.out.lt
                have L0 := new_box w2 (.cells #[.int .i64 (-1), .int .i64 4] 3)
                replace HK := HK.al (.cells #[.int .i64 (-1), .int .i64 4] 3)
                replace HC := al_box HC (.cells #[.int .i64 (-1), .int .i64 4] 3)
                go_wp2_with fail
                refine (pickC R _ 2 _ HRa.out (by omega) (by omega)).mono ?_
                rintro e w3 ⟨y, rfl, hy, hR, hg⟩
                replace HK := HK.dr hg HL.out hb
                replace HC := dr_box HC hg (by omega)
                have hy2 : (y : Int) < 2 := by omega
                obtain ⟨v, hv⟩ := lit2 (dr_box L0 hg (by omega)) (show y < 2 by omega)
                have HRb := Lib.hid hR; clear hR hg hy L0
                have k0 := box_cell HC 0; have y0 := box_free HC 0
                go_wp2_with fail
                go_meet
                case rel => exact ⟨v, hq, hx30, hx3n, HNE.out, HK.st hq HNE.out, st_same HC 0 (.int .i64 v), Lib.hid (rdr_set HRb.out 0 (.int .i64 v) (show R < q by omega))⟩
            case rest =>
              obtain ⟨x4, _, _, _, _, HK, HC, HRc⟩ := hcut
              have c0 := box_cell HC 0; have c1 := box_cell HC 1; have c2 := box_cell HC 2; have c3 := box_cell HC 3
              have HZ := set4_cells HK.2.1 (.int .i64 x4) (.int .i64 x1) (.int .i64 x3) (.bool b3)
              have z0 := box_cell HZ 0; have z1 := box_cell HZ 1; have z2 := box_cell HZ 2; have z3 := box_cell HZ 3
              have k0 := box_cell HK.2.1 0; have y0 := box_free HK.2.1 0
              have k1 := box_cell HK.2.1 1; have y1 := box_free HK.2.1 1
              have k2 := box_cell HK.2.1 2; have y2 := box_free HK.2.1 2
              have k3 := box_cell HK.2.1 3; have y3 := box_free HK.2.1 3
              go_wp2_with fail
              exact bodyPost_ret (v := .agg #[.int .i64 x4, .int .i64 x1, .int .i64 x3, .bool b3]) (by simp [results, Tryd.results15, go_sem, z0, z1, z2, z3]) rfl (cmdEnd HK HRc (by omega) HL.out)
end Go.Proofs.YtlpgdcmohkacoaaDoor
