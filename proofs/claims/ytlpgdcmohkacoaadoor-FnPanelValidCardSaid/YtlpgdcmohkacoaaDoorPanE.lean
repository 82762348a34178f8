/- The contract of the reference's PanelDo at a valid panel: it stays valid and has as many lines. No statement is proved here. -/
import Derived.Test.YtlpgdcmohkacoaaDoorPanD
import Derived.Deep.CutRange
import Derived.BigQuiet
namespace Go.Proofs.YtlpgdcmohkacoaaDoor
open Go.RowKit

theorem specPnVt (A : Option Addr) (n c : Nat) (on : List Bool) (who i : Int) (tb : Bool) (left : Int) (w : World) (h : panB on who i tb left = true) (hn : on.length = n) (hm : n ≤ 1048576) (hA : Rd w A (bools on)) :
    Calls Tryd.prog 6 #[.agg #[.slice A n c, .int .i64 who, .int .i64 i, .bool tb, .int .i64 left]] w fun e w' => e = .returned (.bool true) ∧ Below w.heap.size w w' := by
  have := specPnV A n c on who i tb left w hn hm hA
  rw [h] at this; exact this
theorem row_setN {w : World} {base n g j : Nat} {u : Value} {E : TypeId} {size : Nat} {v : Value} {cs : List Value} (hown : w.ownsRow base E size v n cs) (hne : ∀ k, v.ownBlock = some k → k ≠ g) : (w.setCell ⟨g, j, none⟩ u).ownsRow base E size v n cs := by
  refine hown.kept (set_grown w g j u) ?_
  cases hv : v.ownBlock with
  | none => exact .inl rfl
  | some k => exact .inr (by have := hne k hv; intro e; cases e; exact this rfl)
theorem Rd.bool' {w : World} {A : Option Addr} {xs : List Bool} (h : Rd w A (bools xs)) {k : Nat} (hk : k < xs.length) : ∃ b o, A = some ⟨b, o, none⟩ ∧ b < w.heap.size ∧ w.cell? ⟨b, o + k, none⟩ = some (.bool (xs.getD k false)) := h.bool hk
/-- does a command select -/
def selB (on : List Bool) (who kind cw ca : Int) (ct : Bool) : Bool := (kind == 0) && ((who == -1) && (inB cw 0 9 && (inB ca 0 ((on.length : Int) - 1) && (on.getD ca.toNat false != ct))))
theorem pan_sel {on : List Bool} {who i left kind cw ca : Int} {tb ct : Bool} (h : panB on who i tb left = true) (hs : selB on who kind cw ca ct = true) : panB on cw ca ct 3 = true := by
  simp only [selB, Bool.and_eq_true] at hs
  obtain ⟨_, _, h1, h2, h3⟩ := hs
  have hl : inB on.length 1 10 = true := by
    cases hl : inB on.length 1 10 with
    | true => rfl
    | false => rw [pan_len hl] at h; cases h
  have hw : (cw == -1) = false := by rw [inB_iff] at h1; simp; omega
  rw [pan_some hl hw, h1, h2, h3]; decide
theorem pan_clr {on : List Bool} (h : inB on.length 1 10 = true) : panB on (-1) 0 false 0 = true := by rw [pan_none h]; decide
theorem pan_ln {on : List Bool} {who i left : Int} {tb : Bool} (h : panB on who i tb left = true) : inB on.length 1 10 = true := by
  cases hl : inB on.length 1 10 with
  | true => rfl
  | false => rw [pan_len hl] at h; cases h
theorem pan_at {on : List Bool} {who i left : Int} {tb : Bool} (h : panB on who i tb left = true) (hw : 0 ≤ who) : 0 ≤ i ∧ i < on.length := by
  have hln := pan_ln h
  rw [pan_some hln (by simp; omega), Bool.and_eq_true, Bool.and_eq_true] at h
  have := h.2.1; rw [inB_iff] at this; omega
theorem pan_tick {on : List Bool} {who i left : Int} {tb : Bool} (h : panB on who i tb left = true) (hl : 1 < left) : panB on who i tb (left - 1) = true ∧ left ≤ 3 := by
  by_cases hw : who = -1
  · subst hw
    have hln := pan_ln h
    rw [pan_none hln] at h
    simp at h; omega
  · have hw' : (who == -1) = false := by simpa using hw
    have hln := pan_ln h
    rw [pan_some hln hw'] at h ⊢
    simp only [Bool.and_eq_true] at h ⊢
    obtain ⟨h1, h2, h3, h4⟩ := h
    rw [inB_iff] at h4
    exact ⟨⟨h1, h2, h3, by rw [inB_iff]; omega⟩, h4.2⟩
theorem row_st {w : World} {base g n c : Nat} {E : TypeId} {cs : List Value} (h : w.ownsRow base E 1 (.slice (some ⟨g, 0, none⟩) n c) n cs) (j : Nat) (u : Value) : (w.setCell ⟨g, j, none⟩ u).ownsRow base E 1 (.slice (some ⟨g, 0, none⟩) n c) n (cs.set j u) := by
  refine ⟨by rw [List.length_set]; exact h.1, ?_⟩
  rcases h.2 with ⟨e, _⟩ | ⟨g', cap, cur, e, hge, hg, hn, hm, hz, ht⟩
  · cases e
  · cases e
    refine .inr ⟨g, c, cur.setIfInBounds j u, rfl, hge, heap_setCell_same w g j cur E u hg, hn, hm, by simpa using hz, ?_⟩
    rw [Array.toList_setIfInBounds, List.take_set, ht]
theorem row_free {w : World} {base g n c : Nat} {E : TypeId} {size : Nat} {cs : List Value} (h : w.ownsRow base E size (.slice (some ⟨g, 0, none⟩) n c) n cs) (j : Nat) : w.frozen? ⟨g, j, none⟩ = false := by
  rcases h.2 with ⟨e, _⟩ | ⟨g', cap, cur, e, hge, hg, _⟩
  · cases e
  · cases e; exact frozen_of_row w g j cur _ hg
theorem row_addr {w : World} {base n c : Nat} {E : TypeId} {size : Nat} {B : Option Addr} {cs : List Value} (h : w.ownsRow base E size (.slice B n c) n cs) (hn : 0 < n) : ∃ g, B = some ⟨g, 0, none⟩ ∧ base ≤ g := by
  rcases h.2 with ⟨e, e2⟩ | ⟨g', cap, cur, e, hge, _⟩
  · omega
  · cases e; exact ⟨g', rfl, hge⟩
theorem bools_set (on : List Bool) (j : Nat) (b : Bool) : (bools on).set j (.bool b) = bools (on.set j b) := by simp [bools, List.map_set]
/-- does a command operate; does it cancel -/
def opB (who i : Int) (tb : Bool) (kind cw ca : Int) (ct : Bool) : Bool := (kind == 1) && (decide (0 ≤ who) && ((cw == who) && ((ca == i) && (ct == tb))))
def canB (who kind cw : Int) : Bool := (kind == 2) && (decide (0 ≤ who) && (cw == who))
/-- a valid panel of as many lines, of its own -/
def RetDo (n : Nat) (w : World) (e : Ending) (w' : World) : Prop :=
  ∃ (on : List Bool) (who i : Int) (tb : Bool) (left : Int) (B : Option Addr) (c : Nat) (b : Bool), e = .returned (.tuple #[.agg #[.slice B n c, .int .i64 who, .int .i64 i, .bool tb, .int .i64 left], .bool b]) ∧ on.length = n ∧ panB on who i tb left = true ∧ w'.ownsRow w.heap.size 4 1 (.slice B n c) n (bools on) ∧ Below w.heap.size w w'
set_option maxRecDepth 100000 in
set_option maxHeartbeats 8000000 in
theorem doP (A : Option Addr) (n c : Nat) (on : List Bool) (who i : Int) (tb : Bool) (left : Int) (kind cw ca : Int) (ct : Bool) (w : World) (hn : on.length = n) (hm : n ≤ 1048576) (hnil : A = none → n = 0 ∧ c = 0) (hA : Rd w A (bools on)) (hv : panB on who i tb left = true) :
    Calls Tryd.prog 14 #[.agg #[.slice A n c, .int .i64 who, .int .i64 i, .bool tb, .int .i64 left], .agg #[.int .i64 kind, .int .i64 cw, .int .i64 ca, .bool ct]] w (RetDo n w) := by
  have HA := Lib.hid hA; have HN := Lib.hid hn; have HNIL := Lib.hid hnil; have HV := Lib.hid hv; clear hA hn hnil hv
  have HG := Lib.hid (Below.refl w.heap.size w)
  go_enter Tryd.func14, Tryd.ntmps14
  have B_p := new_box w (.cells #[.slice A n c, .int .i64 who, .int .i64 i, .bool tb, .int .i64 left] 25)
  have Z_p : w.heap.size ≤ w.heap.size := by have := HG.out.size; first | omega | (simp at this; omega) | (simp at this ⊢; omega)
  replace HG := Lib.hid (allocB HG.out (.cells #[.slice A n c, .int .i64 who, .int .i64 i, .bool tb, .int .i64 left] 25))
  have M0_p := blk_lt B_p.out
  replace M0_p : w.heap.size < (w.heap.size + 1) := by first | (simp; done) | (simp; omega) | omega
  replace B_p := al_box B_p (.cells #[.int .i64 kind, .int .i64 cw, .int .i64 ca, .bool ct] 45)
  have B_c := new_box (w.alloc (.cells #[.slice A n c, .int .i64 who, .int .i64 i, .bool tb, .int .i64 left] 25)) (.cells #[.int .i64 kind, .int .i64 cw, .int .i64 ca, .bool ct] 45)
  replace B_c : Hid (((w.alloc (.cells #[.slice A n c, .int .i64 who, .int .i64 i, .bool tb, .int .i64 left] 25)).alloc (.cells #[.int .i64 kind, .int .i64 cw, .int .i64 ca, .bool ct] 45)).heap[(w.heap.size + 1)]? = some (.cells #[.int .i64 kind, .int .i64 cw, .int .i64 ca, .bool ct] 45 (0, 0))) := by have := B_c.out; rw [Hid]; simpa using this
  have Z_c : w.heap.size ≤ (w.heap.size + 1) := by have := HG.out.size; first | omega | (simp at this; omega) | (simp at this ⊢; omega)
  have M_p_c : w.heap.size < (w.heap.size + 1) := M0_p
  replace HG := Lib.hid (allocB HG.out (.cells #[.int .i64 kind, .int .i64 cw, .int .i64 ca, .bool ct] 45))
  have M0_p := blk_lt B_p.out
  have M0_c := blk_lt B_c.out
  replace M0_p : w.heap.size < (w.heap.size + 1 + 1) := by first | (simp; done) | (simp; omega) | omega
  replace M0_c : (w.heap.size + 1) < (w.heap.size + 1 + 1) := by first | (simp; done) | (simp; omega) | omega
  replace B_p := al_box B_p (.cells #[.slice none 0 0, .int .i64 0, .int .i64 0, .bool false, .int .i64 0] 25)
  replace B_c := al_box B_c (.cells #[.slice none 0 0, .int .i64 0, .int .i64 0, .bool false, .int .i64 0] 25)
  have B_r := new_box ((w.alloc (.cells #[.slice A n c, .int .i64 who, .int .i64 i, .bool tb, .int .i64 left] 25)).alloc (.cells #[.int .i64 kind, .int .i64 cw, .int .i64 ca, .bool ct] 45)) (.cells #[.slice none 0 0, .int .i64 0, .int .i64 0, .bool false, .int .i64 0] 25)
  replace B_r : Hid ((((w.alloc (.cells #[.slice A n c, .int .i64 who, .int .i64 i, .bool tb, .int .i64 left] 25)).alloc (.cells #[.int .i64 kind, .int .i64 cw, .int .i64 ca, .bool ct] 45)).alloc (.cells #[.slice none 0 0, .int .i64 0, .int .i64 0, .bool false, .int .i64 0] 25)).heap[(w.heap.size + 1 + 1)]? = some (.cells #[.slice none 0 0, .int .i64 0, .int .i64 0, .bool false, .int .i64 0] 25 (0, 0))) := by have := B_r.out; rw [Hid]; simpa using this
  have Z_r : w.heap.size ≤ (w.heap.size + 1 + 1) := by have := HG.out.size; first | omega | (simp at this; omega) | (simp at this ⊢; omega)
  have M_p_r : w.heap.size < (w.heap.size + 1 + 1) := M0_p
  have M_c_r : (w.heap.size + 1) < (w.heap.size + 1 + 1) := M0_c
  replace HG := Lib.hid (allocB HG.out (.cells #[.slice none 0 0, .int .i64 0, .int .i64 0, .bool false, .int .i64 0] 25))
  have c_p_0 : (((w.alloc (.cells #[.slice A n c, .int .i64 who, .int .i64 i, .bool tb, .int .i64 left] 25)).alloc (.cells #[.int .i64 kind, .int .i64 cw, .int .i64 ca, .bool ct] 45)).alloc (.cells #[.slice none 0 0, .int .i64 0, .int .i64 0, .bool false, .int .i64 0] 25)).cell? ⟨w.heap.size, 0, none⟩ = some (.slice A n c) := box_cell B_p 0
  have c_p_1 : (((w.alloc (.cells #[.slice A n c, .int .i64 who, .int .i64 i, .bool tb, .int .i64 left] 25)).alloc (.cells #[.int .i64 kind, .int .i64 cw, .int .i64 ca, .bool ct] 45)).alloc (.cells #[.slice none 0 0, .int .i64 0, .int .i64 0, .bool false, .int .i64 0] 25)).cell? ⟨w.heap.size, 1, none⟩ = some (.int .i64 who) := box_cell B_p 1
  have c_p_2 : (((w.alloc (.cells #[.slice A n c, .int .i64 who, .int .i64 i, .bool tb, .int .i64 left] 25)).alloc (.cells #[.int .i64 kind, .int .i64 cw, .int .i64 ca, .bool ct] 45)).alloc (.cells #[.slice none 0 0, .int .i64 0, .int .i64 0, .bool false, .int .i64 0] 25)).cell? ⟨w.heap.size, 2, none⟩ = some (.int .i64 i) := box_cell B_p 2
  have c_p_3 : (((w.alloc (.cells #[.slice A n c, .int .i64 who, .int .i64 i, .bool tb, .int .i64 left] 25)).alloc (.cells #[.int .i64 kind, .int .i64 cw, .int .i64 ca, .bool ct] 45)).alloc (.cells #[.slice none 0 0, .int .i64 0, .int .i64 0, .bool false, .int .i64 0] 25)).cell? ⟨w.heap.size, 3, none⟩ = some (.bool tb) := box_cell B_p 3
  have c_p_4 : (((w.alloc (.cells #[.slice A n c, .int .i64 who, .int .i64 i, .bool tb, .int .i64 left] 25)).alloc (.cells #[.int .i64 kind, .int .i64 cw, .int .i64 ca, .bool ct] 45)).alloc (.cells #[.slice none 0 0, .int .i64 0, .int .i64 0, .bool false, .int .i64 0] 25)).cell? ⟨w.heap.size, 4, none⟩ = some (.int .i64 left) := box_cell B_p 4
  have hra := HA.out.below HG.out
  go_wp2_with fail
  refine (specPnVt A n c on who i tb left _ HV.out HN.out hm hra).mono ?_
  rintro e w1 ⟨rfl, hbn⟩
  replace HG := Lib.hid (seqB HG.out hbn)
  replace hra := hra.below hbn
  replace B_p := be_box B_p hbn
  replace B_c := be_box B_c hbn
  replace B_r := be_box B_r hbn
  clear hbn
  clear M0_p M0_c c_p_0 c_p_1 c_p_2 c_p_3 c_p_4
  have c_p_0 : w1.cell? ⟨w.heap.size, 0, none⟩ = some (.slice A n c) := box_cell B_p 0
  have c_p_1 : w1.cell? ⟨w.heap.size, 1, none⟩ = some (.int .i64 who) := box_cell B_p 1
  have c_p_2 : w1.cell? ⟨w.heap.size, 2, none⟩ = some (.int .i64 i) := box_cell B_p 2
  have c_p_3 : w1.cell? ⟨w.heap.size, 3, none⟩ = some (.bool tb) := box_cell B_p 3
  have c_p_4 : w1.cell? ⟨w.heap.size, 4, none⟩ = some (.int .i64 left) := box_cell B_p 4
  have hz1 : w.heap.size + 1 + 1 < w1.heap.size := blk_lt B_r.out
  go_wp2_with fail
  refine (copyP A n c on who i tb left _ HN.out hm HNIL.out hra).mono ?_
  rintro e w2 ⟨B, d, rfl, hr, hbn⟩
  replace HG := Lib.hid (seqB HG.out hbn)
  replace hra := hra.below hbn
  have HO := Lib.hid hr
  have hz2 := hbn.size
  clear hr
  replace B_p := be_box B_p hbn
  replace B_c := be_box B_c hbn
  replace B_r := be_box B_r hbn
  clear hbn
  clear c_p_0 c_p_1 c_p_2 c_p_3 c_p_4
  have HNE : Hid (∀ k, (Value.slice B n d).ownBlock = some k → k ≠ w2.heap.size ∧ k ≠ w.heap.size + 1 + 1) := fun k e => by have := HO.out.lt k e; omega
  replace HO := Lib.hid (HO.out.alloc (.cells #[.slice B n d, .int .i64 who, .int .i64 i, .bool tb, .int .i64 left] 25))
  replace hra := hra.below (allocB (Below.refl _ _) (.cells #[.slice B n d, .int .i64 who, .int .i64 i, .bool tb, .int .i64 left] 25))
  have M0_p := blk_lt B_p.out
  have M0_c := blk_lt B_c.out
  have M0_r := blk_lt B_r.out
  replace B_p := al_box B_p (.cells #[.slice B n d, .int .i64 who, .int .i64 i, .bool tb, .int .i64 left] 25)
  replace B_c := al_box B_c (.cells #[.slice B n d, .int .i64 who, .int .i64 i, .bool tb, .int .i64 left] 25)
  replace B_r := al_box B_r (.cells #[.slice B n d, .int .i64 who, .int .i64 i, .bool tb, .int .i64 left] 25)
  have B_o := new_box w2 (.cells #[.slice B n d, .int .i64 who, .int .i64 i, .bool tb, .int .i64 left] 25)
  have Z_o : w.heap.size ≤ w2.heap.size := by have := HG.out.size; first | omega | (simp at this; omega) | (simp at this ⊢; omega)
  have M_p_o : w.heap.size < w2.heap.size := M0_p
  have M_c_o : (w.heap.size + 1) < w2.heap.size := M0_c
  have M_r_o : (w.heap.size + 1 + 1) < w2.heap.size := M0_r
  replace HG := Lib.hid (allocB HG.out (.cells #[.slice B n d, .int .i64 who, .int .i64 i, .bool tb, .int .i64 left] 25))
  have hgo : w.heap.size + 1 + 1 < w2.heap.size := by omega
  clear M_p_c M_p_r M_c_r M_p_o M_c_o M_r_o Z_p Z_c
  go_upto_region 5 with fail
  generalize w2.alloc (.cells #[.slice B n d, .int .i64 who, .int .i64 i, .bool tb, .int .i64 left] 25) = W2 at *
  generalize w2.heap.size = g at *
  go_cut [14] from 15 (fun s14 wx => s14 = .bool (selB on who kind cw ca ct) ∧ ∃ q, wx = W2.drewN q)
  case first =>
    have c_p_0 : W2.cell? ⟨w.heap.size, 0, none⟩ = some (.slice A n c) := box_cell B_p 0
    have c_p_1 : W2.cell? ⟨w.heap.size, 1, none⟩ = some (.int .i64 who) := box_cell B_p 1
    have c_c_0 : W2.cell? ⟨(w.heap.size + 1), 0, none⟩ = some (.int .i64 kind) := box_cell B_c 0
    have c_c_1 : W2.cell? ⟨(w.heap.size + 1), 1, none⟩ = some (.int .i64 cw) := box_cell B_c 1
    have c_c_2 : W2.cell? ⟨(w.heap.size + 1), 2, none⟩ = some (.int .i64 ca) := box_cell B_c 2
    have c_c_3 : W2.cell? ⟨(w.heap.size + 1), 3, none⟩ = some (.bool ct) := box_cell B_c 3
    have HS : Hid (selB on who kind cw ca ct = ((kind == 0) && ((who == -1) && (inB cw 0 9 && (inB ca 0 ((n : Int) - 1) && (on.getD ca.toNat false != ct)))))) := by rw [Hid, ← HN.out]; rfl
    have HRA := Lib.hid hra
    clear hra B_p B_c B_r B_o HG HO HA HNIL HV HNE
    have hnw : IntKind.i64.wrap ((n : Int) - 1) = (n : Int) - 1 := IntWalk.i64_in _ (by omega)
    cases e1 : (kind == 0) with
    | false =>
      go_quiet ((go_at_call 10; first | exact quiet_left (l1In_is _ _ _ _ _ e3) | exact quiet_left (l1In_is _ _ _ _ _ e4)))
      go_wp2_with fail
      go_meet
      case rel => exact ⟨by rw [HS.out]; first | (rw [e1]; rfl) | (rw [e1, e2]; rfl) | (rw [e1, e2, e3]; rfl) | (rw [e1, e2, e3, e4]; rfl) | (rw [HJ.out, HXJ.out, e1, e2, e3, e4]; rfl), _, rfl⟩
    | true =>
      cases e2 : (who == -1) with
      | false =>
        go_quiet ((go_at_call 10; first | exact quiet_left (l1In_is _ _ _ _ _ e3) | exact quiet_left (l1In_is _ _ _ _ _ e4)))
        go_wp2_with fail
        go_meet
        case rel => exact ⟨by rw [HS.out]; first | (rw [e1]; rfl) | (rw [e1, e2]; rfl) | (rw [e1, e2, e3]; rfl) | (rw [e1, e2, e3, e4]; rfl) | (rw [HJ.out, HXJ.out, e1, e2, e3, e4]; rfl), _, rfl⟩
      | true =>
        cases e3 : inB cw 0 9 with
        | false =>
          go_quiet ((go_at_call 10; first | exact quiet_left (l1In_is _ _ _ _ _ e3) | exact quiet_left (l1In_is _ _ _ _ _ e4)))
          go_wp2_with fail
          go_meet
          case rel => exact ⟨by rw [HS.out]; first | (rw [e1]; rfl) | (rw [e1, e2]; rfl) | (rw [e1, e2, e3]; rfl) | (rw [e1, e2, e3, e4]; rfl) | (rw [HJ.out, HXJ.out, e1, e2, e3, e4]; rfl), _, rfl⟩
        | true =>
          cases e4 : inB ca 0 ((n : Int) - 1) with
          | false =>
            go_quiet ((go_at_call 10; first | exact quiet_left (l1In_is _ _ _ _ _ e3) | exact quiet_left (l1In_is _ _ _ _ _ e4)))
            go_wp2_with fail
            go_meet
            case rel => exact ⟨by rw [HS.out]; first | (rw [e1]; rfl) | (rw [e1, e2]; rfl) | (rw [e1, e2, e3]; rfl) | (rw [e1, e2, e3, e4]; rfl) | (rw [HJ.out, HXJ.out, e1, e2, e3, e4]; rfl), _, rfl⟩
          | true =>
            obtain ⟨hca0, hca1⟩ := (inB_iff _ _ _).1 e4
            obtain ⟨j, rfl⟩ := Int.eq_ofNat_of_zero_le hca0
            have hjn : j < n := by omega
            obtain ⟨ba, oa, rfl, hbl, hcj⟩ := HRA.out.bool (k := j) (by rw [HN.out]; exact hjn)
            have hjz : (j : Int) < (n : Int) := by omega
            have hj0 : (0 : Int) ≤ (j : Int) := by omega
            have HJ : Hid (((j : Int)).toNat = j) := by rw [Hid]; omega
            generalize hxj : on.getD j false = xj at hcj
            have HXJ := Lib.hid hxj; clear hxj hca0 hca1
            cases e5 : (xj != ct) with
            | false =>
              go_quiet ((go_at_call 10; first | exact quiet_left (l1In_is _ _ _ _ _ e3) | exact quiet_left (l1In_is _ _ _ _ _ e4)))
              go_wp2_with fail
              go_meet
              case rel => exact ⟨by rw [HS.out]; first | (rw [e1]; rfl) | (rw [e1, e2]; rfl) | (rw [e1, e2, e3]; rfl) | (rw [e1, e2, e3, e4]; rfl) | (rw [HJ.out, HXJ.out, e1, e2, e3, e4]; rfl), _, rfl⟩
            | true =>
              go_quiet ((go_at_call 10; first | exact quiet_left (l1In_is _ _ _ _ _ e3) | exact quiet_left (l1In_is _ _ _ _ _ e4)))
              go_wp2_with fail
              go_meet
              case rel => exact ⟨by rw [HS.out]; first | (rw [e1]; rfl) | (rw [e1, e2]; rfl) | (rw [e1, e2, e3]; rfl) | (rw [e1, e2, e3, e4]; rfl) | (rw [HJ.out, HXJ.out, e1, e2, e3, e4]; rfl), _, rfl⟩
  case rest =>
    obtain ⟨rfl, q, rfl⟩ := hcut
    replace B_p : Hid ((W2.drewN q).heap[w.heap.size]? = some (.cells #[.slice A n c, .int .i64 who, .int .i64 i, .bool tb, .int .i64 left] 25 (0, 0))) := B_p
    replace B_c : Hid ((W2.drewN q).heap[(w.heap.size + 1)]? = some (.cells #[.int .i64 kind, .int .i64 cw, .int .i64 ca, .bool ct] 45 (0, 0))) := B_c
    replace B_r : Hid ((W2.drewN q).heap[(w.heap.size + 1 + 1)]? = some (.cells #[.slice none 0 0, .int .i64 0, .int .i64 0, .bool false, .int .i64 0] 25 (0, 0))) := B_r
    replace B_o : Hid ((W2.drewN q).heap[g]? = some (.cells #[.slice B n d, .int .i64 who, .int .i64 i, .bool tb, .int .i64 left] 25 (0, 0))) := B_o
    replace HO : Hid ((W2.drewN q).ownsRow w1.heap.size 4 1 (.slice B n d) n (bools on)) := HO
    replace hra : Rd (W2.drewN q) A (bools on) := hra.drewN q
    replace HG := Lib.hid (drewNB HG.out q)
    generalize W2.drewN q = W3 at *
    cases hs : selB on who kind cw ca ct with
    | true =>
      have HSEL := Lib.hid (pan_sel HV.out hs)
      clear hs
      have c_c_1 : W3.cell? ⟨(w.heap.size + 1), 1, none⟩ = some (.int .i64 cw) := box_cell B_c 1
      have c_c_2 : W3.cell? ⟨(w.heap.size + 1), 2, none⟩ = some (.int .i64 ca) := box_cell B_c 2
      have c_c_3 : W3.cell? ⟨(w.heap.size + 1), 3, none⟩ = some (.bool ct) := box_cell B_c 3
      replace HO := Lib.hid (row_setN (g := g) (j := 1) (u := .int .i64 cw) HO.out (fun k e => (HNE.out k e).1))
      have k_o_1 : W3.cell? ⟨g, 1, none⟩ = some (.int .i64 who) := box_cell B_o 1
      have y_o_1 : W3.frozen? ⟨g, 1, none⟩ = false := box_free B_o 1
      replace B_p := st_box (g' := g) (j := 1) B_p (.int .i64 cw) (by omega)
      replace B_c := st_box (g' := g) (j := 1) B_c (.int .i64 cw) (by omega)
      replace B_r := st_box (g' := g) (j := 1) B_r (.int .i64 cw) (by omega)
      replace B_o := st_same B_o 1 (.int .i64 cw)
      replace HG := Lib.hid (be_set (g := g) (j := 1) (u := .int .i64 cw) HG.out  Z_o)
      replace B_o : Hid ((W3.setCell ⟨g, 1, none⟩ (.int .i64 cw)).heap[g]? = some (.cells #[.slice B n d, .int .i64 cw, .int .i64 i, .bool tb, .int .i64 left] 25 (0, 0))) := B_o
      have c_c_1 : (W3.setCell ⟨g, 1, none⟩ (.int .i64 cw)).cell? ⟨(w.heap.size + 1), 1, none⟩ = some (.int .i64 cw) := box_cell B_c 1; have c_c_2 : (W3.setCell ⟨g, 1, none⟩ (.int .i64 cw)).cell? ⟨(w.heap.size + 1), 2, none⟩ = some (.int .i64 ca) := box_cell B_c 2; have c_c_3 : (W3.setCell ⟨g, 1, none⟩ (.int .i64 cw)).cell? ⟨(w.heap.size + 1), 3, none⟩ = some (.bool ct) := box_cell B_c 3
      replace HO := Lib.hid (row_setN (g := g) (j := 2) (u := .int .i64 ca) HO.out (fun k e => (HNE.out k e).1))
      have k_o_2 : (W3.setCell ⟨g, 1, none⟩ (.int .i64 cw)).cell? ⟨g, 2, none⟩ = some (.int .i64 i) := box_cell B_o 2
      have y_o_2 : (W3.setCell ⟨g, 1, none⟩ (.int .i64 cw)).frozen? ⟨g, 2, none⟩ = false := box_free B_o 2
      replace B_p := st_box (g' := g) (j := 2) B_p (.int .i64 ca) (by omega)
      replace B_c := st_box (g' := g) (j := 2) B_c (.int .i64 ca) (by omega)
      replace B_r := st_box (g' := g) (j := 2) B_r (.int .i64 ca) (by omega)
      replace B_o := st_same B_o 2 (.int .i64 ca)
      replace HG := Lib.hid (be_set (g := g) (j := 2) (u := .int .i64 ca) HG.out  Z_o)
      replace B_o : Hid (((W3.setCell ⟨g, 1, none⟩ (.int .i64 cw)).setCell ⟨g, 2, none⟩ (.int .i64 ca)).heap[g]? = some (.cells #[.slice B n d, .int .i64 cw, .int .i64 ca, .bool tb, .int .i64 left] 25 (0, 0))) := B_o
      have c_c_1 : ((W3.setCell ⟨g, 1, none⟩ (.int .i64 cw)).setCell ⟨g, 2, none⟩ (.int .i64 ca)).cell? ⟨(w.heap.size + 1), 1, none⟩ = some (.int .i64 cw) := box_cell B_c 1; have c_c_2 : ((W3.setCell ⟨g, 1, none⟩ (.int .i64 cw)).setCell ⟨g, 2, none⟩ (.int .i64 ca)).cell? ⟨(w.heap.size + 1), 2, none⟩ = some (.int .i64 ca) := box_cell B_c 2; have c_c_3 : ((W3.setCell ⟨g, 1, none⟩ (.int .i64 cw)).setCell ⟨g, 2, none⟩ (.int .i64 ca)).cell? ⟨(w.heap.size + 1), 3, none⟩ = some (.bool ct) := box_cell B_c 3
      replace HO := Lib.hid (row_setN (g := g) (j := 3) (u := .bool ct) HO.out (fun k e => (HNE.out k e).1))
      have k_o_3 : ((W3.setCell ⟨g, 1, none⟩ (.int .i64 cw)).setCell ⟨g, 2, none⟩ (.int .i64 ca)).cell? ⟨g, 3, none⟩ = some (.bool tb) := box_cell B_o 3
      have y_o_3 : ((W3.setCell ⟨g, 1, none⟩ (.int .i64 cw)).setCell ⟨g, 2, none⟩ (.int .i64 ca)).frozen? ⟨g, 3, none⟩ = false := box_free B_o 3
      replace B_p := st_box (g' := g) (j := 3) B_p (.bool ct) (by omega)
      replace B_c := st_box (g' := g) (j := 3) B_c (.bool ct) (by omega)
      replace B_r := st_box (g' := g) (j := 3) B_r (.bool ct) (by omega)
      replace B_o := st_same B_o 3 (.bool ct)
      replace HG := Lib.hid (be_set (g := g) (j := 3) (u := .bool ct) HG.out  Z_o)
      replace B_o : Hid ((((W3.setCell ⟨g, 1, none⟩ (.int .i64 cw)).setCell ⟨g, 2, none⟩ (.int .i64 ca)).setCell ⟨g, 3, none⟩ (.bool ct)).heap[g]? = some (.cells #[.slice B n d, .int .i64 cw, .int .i64 ca, .bool ct, .int .i64 left] 25 (0, 0))) := B_o
      have c_c_1 : (((W3.setCell ⟨g, 1, none⟩ (.int .i64 cw)).setCell ⟨g, 2, none⟩ (.int .i64 ca)).setCell ⟨g, 3, none⟩ (.bool ct)).cell? ⟨(w.heap.size + 1), 1, none⟩ = some (.int .i64 cw) := box_cell B_c 1; have c_c_2 : (((W3.setCell ⟨g, 1, none⟩ (.int .i64 cw)).setCell ⟨g, 2, none⟩ (.int .i64 ca)).setCell ⟨g, 3, none⟩ (.bool ct)).cell? ⟨(w.heap.size + 1), 2, none⟩ = some (.int .i64 ca) := box_cell B_c 2; have c_c_3 : (((W3.setCell ⟨g, 1, none⟩ (.int .i64 cw)).setCell ⟨g, 2, none⟩ (.int .i64 ca)).setCell ⟨g, 3, none⟩ (.bool ct)).cell? ⟨(w.heap.size + 1), 3, none⟩ = some (.bool ct) := box_cell B_c 3
      replace HO := Lib.hid (row_setN (g := g) (j := 4) (u := .int .i64 3) HO.out (fun k e => (HNE.out k e).1))
      have k_o_4 : (((W3.setCell ⟨g, 1, none⟩ (.int .i64 cw)).setCell ⟨g, 2, none⟩ (.int .i64 ca)).setCell ⟨g, 3, none⟩ (.bool ct)).cell? ⟨g, 4, none⟩ = some (.int .i64 left) := box_cell B_o 4
      have y_o_4 : (((W3.setCell ⟨g, 1, none⟩ (.int .i64 cw)).setCell ⟨g, 2, none⟩ (.int .i64 ca)).setCell ⟨g, 3, none⟩ (.bool ct)).frozen? ⟨g, 4, none⟩ = false := box_free B_o 4
      replace B_p := st_box (g' := g) (j := 4) B_p (.int .i64 3) (by omega)
      replace B_c := st_box (g' := g) (j := 4) B_c (.int .i64 3) (by omega)
      replace B_r := st_box (g' := g) (j := 4) B_r (.int .i64 3) (by omega)
      replace B_o := st_same B_o 4 (.int .i64 3)
      replace HG := Lib.hid (be_set (g := g) (j := 4) (u := .int .i64 3) HG.out  Z_o)
      replace B_o : Hid (((((W3.setCell ⟨g, 1, none⟩ (.int .i64 cw)).setCell ⟨g, 2, none⟩ (.int .i64 ca)).setCell ⟨g, 3, none⟩ (.bool ct)).setCell ⟨g, 4, none⟩ (.int .i64 3)).heap[g]? = some (.cells #[.slice B n d, .int .i64 cw, .int .i64 ca, .bool ct, .int .i64 3] 25 (0, 0))) := B_o
      have c_c_1 : ((((W3.setCell ⟨g, 1, none⟩ (.int .i64 cw)).setCell ⟨g, 2, none⟩ (.int .i64 ca)).setCell ⟨g, 3, none⟩ (.bool ct)).setCell ⟨g, 4, none⟩ (.int .i64 3)).cell? ⟨(w.heap.size + 1), 1, none⟩ = some (.int .i64 cw) := box_cell B_c 1; have c_c_2 : ((((W3.setCell ⟨g, 1, none⟩ (.int .i64 cw)).setCell ⟨g, 2, none⟩ (.int .i64 ca)).setCell ⟨g, 3, none⟩ (.bool ct)).setCell ⟨g, 4, none⟩ (.int .i64 3)).cell? ⟨(w.heap.size + 1), 2, none⟩ = some (.int .i64 ca) := box_cell B_c 2; have c_c_3 : ((((W3.setCell ⟨g, 1, none⟩ (.int .i64 cw)).setCell ⟨g, 2, none⟩ (.int .i64 ca)).setCell ⟨g, 3, none⟩ (.bool ct)).setCell ⟨g, 4, none⟩ (.int .i64 3)).cell? ⟨(w.heap.size + 1), 3, none⟩ = some (.bool ct) := box_cell B_c 3
      have c_o_0 : ((((W3.setCell ⟨g, 1, none⟩ (.int .i64 cw)).setCell ⟨g, 2, none⟩ (.int .i64 ca)).setCell ⟨g, 3, none⟩ (.bool ct)).setCell ⟨g, 4, none⟩ (.int .i64 3)).cell? ⟨g, 0, none⟩ = some (.slice B n d) := box_cell B_o 0
      have c_o_1 : ((((W3.setCell ⟨g, 1, none⟩ (.int .i64 cw)).setCell ⟨g, 2, none⟩ (.int .i64 ca)).setCell ⟨g, 3, none⟩ (.bool ct)).setCell ⟨g, 4, none⟩ (.int .i64 3)).cell? ⟨g, 1, none⟩ = some (.int .i64 cw) := box_cell B_o 1
      have c_o_2 : ((((W3.setCell ⟨g, 1, none⟩ (.int .i64 cw)).setCell ⟨g, 2, none⟩ (.int .i64 ca)).setCell ⟨g, 3, none⟩ (.bool ct)).setCell ⟨g, 4, none⟩ (.int .i64 3)).cell? ⟨g, 2, none⟩ = some (.int .i64 ca) := box_cell B_o 2
      have c_o_3 : ((((W3.setCell ⟨g, 1, none⟩ (.int .i64 cw)).setCell ⟨g, 2, none⟩ (.int .i64 ca)).setCell ⟨g, 3, none⟩ (.bool ct)).setCell ⟨g, 4, none⟩ (.int .i64 3)).cell? ⟨g, 3, none⟩ = some (.bool ct) := box_cell B_o 3
      have c_o_4 : ((((W3.setCell ⟨g, 1, none⟩ (.int .i64 cw)).setCell ⟨g, 2, none⟩ (.int .i64 ca)).setCell ⟨g, 3, none⟩ (.bool ct)).setCell ⟨g, 4, none⟩ (.int .i64 3)).cell? ⟨g, 4, none⟩ = some (.int .i64 3) := box_cell B_o 4
      replace HO := Lib.hid (row_setN (g := (w.heap.size + 1 + 1)) (j := 0) (u := .slice B n d) HO.out (fun k e => (HNE.out k e).2))
      have k_r_5 : ((((W3.setCell ⟨g, 1, none⟩ (.int .i64 cw)).setCell ⟨g, 2, none⟩ (.int .i64 ca)).setCell ⟨g, 3, none⟩ (.bool ct)).setCell ⟨g, 4, none⟩ (.int .i64 3)).cell? ⟨(w.heap.size + 1 + 1), 0, none⟩ = some (.slice none 0 0) := box_cell B_r 0
      have y_r_5 : ((((W3.setCell ⟨g, 1, none⟩ (.int .i64 cw)).setCell ⟨g, 2, none⟩ (.int .i64 ca)).setCell ⟨g, 3, none⟩ (.bool ct)).setCell ⟨g, 4, none⟩ (.int .i64 3)).frozen? ⟨(w.heap.size + 1 + 1), 0, none⟩ = false := box_free B_r 0
      replace B_p := st_box (g' := (w.heap.size + 1 + 1)) (j := 0) B_p (.slice B n d) (by omega)
      replace B_c := st_box (g' := (w.heap.size + 1 + 1)) (j := 0) B_c (.slice B n d) (by omega)
      replace B_o := st_box (g' := (w.heap.size + 1 + 1)) (j := 0) B_o (.slice B n d) (by omega)
      replace B_r := st_same B_r 0 (.slice B n d)
      replace HG := Lib.hid (be_set (g := (w.heap.size + 1 + 1)) (j := 0) (u := .slice B n d) HG.out  Z_r)
      replace B_r : Hid ((((((W3.setCell ⟨g, 1, none⟩ (.int .i64 cw)).setCell ⟨g, 2, none⟩ (.int .i64 ca)).setCell ⟨g, 3, none⟩ (.bool ct)).setCell ⟨g, 4, none⟩ (.int .i64 3)).setCell ⟨(w.heap.size + 1 + 1), 0, none⟩ (.slice B n d)).heap[(w.heap.size + 1 + 1)]? = some (.cells #[.slice B n d, .int .i64 0, .int .i64 0, .bool false, .int .i64 0] 25 (0, 0))) := B_r
      replace HO := Lib.hid (row_setN (g := (w.heap.size + 1 + 1)) (j := 1) (u := .int .i64 cw) HO.out (fun k e => (HNE.out k e).2))
      have k_r_6 : (((((W3.setCell ⟨g, 1, none⟩ (.int .i64 cw)).setCell ⟨g, 2, none⟩ (.int .i64 ca)).setCell ⟨g, 3, none⟩ (.bool ct)).setCell ⟨g, 4, none⟩ (.int .i64 3)).setCell ⟨(w.heap.size + 1 + 1), 0, none⟩ (.slice B n d)).cell? ⟨(w.heap.size + 1 + 1), 1, none⟩ = some (.int .i64 0) := box_cell B_r 1
      have y_r_6 : (((((W3.setCell ⟨g, 1, none⟩ (.int .i64 cw)).setCell ⟨g, 2, none⟩ (.int .i64 ca)).setCell ⟨g, 3, none⟩ (.bool ct)).setCell ⟨g, 4, none⟩ (.int .i64 3)).setCell ⟨(w.heap.size + 1 + 1), 0, none⟩ (.slice B n d)).frozen? ⟨(w.heap.size + 1 + 1), 1, none⟩ = false := box_free B_r 1
      replace B_p := st_box (g' := (w.heap.size + 1 + 1)) (j := 1) B_p (.int .i64 cw) (by omega)
      replace B_c := st_box (g' := (w.heap.size + 1 + 1)) (j := 1) B_c (.int .i64 cw) (by omega)
      replace B_o := st_box (g' := (w.heap.size + 1 + 1)) (j := 1) B_o (.int .i64 cw) (by omega)
      replace B_r := st_same B_r 1 (.int .i64 cw)
      replace HG := Lib.hid (be_set (g := (w.heap.size + 1 + 1)) (j := 1) (u := .int .i64 cw) HG.out  Z_r)
      replace B_r : Hid (((((((W3.setCell ⟨g, 1, none⟩ (.int .i64 cw)).setCell ⟨g, 2, none⟩ (.int .i64 ca)).setCell ⟨g, 3, none⟩ (.bool ct)).setCell ⟨g, 4, none⟩ (.int .i64 3)).setCell ⟨(w.heap.size + 1 + 1), 0, none⟩ (.slice B n d)).setCell ⟨(w.heap.size + 1 + 1), 1, none⟩ (.int .i64 cw)).heap[(w.heap.size + 1 + 1)]? = some (.cells #[.slice B n d, .int .i64 cw, .int .i64 0, .bool false, .int .i64 0] 25 (0, 0))) := B_r
      replace HO := Lib.hid (row_setN (g := (w.heap.size + 1 + 1)) (j := 2) (u := .int .i64 ca) HO.out (fun k e => (HNE.out k e).2))
      have k_r_7 : ((((((W3.setCell ⟨g, 1, none⟩ (.int .i64 cw)).setCell ⟨g, 2, none⟩ (.int .i64 ca)).setCell ⟨g, 3, none⟩ (.bool ct)).setCell ⟨g, 4, none⟩ (.int .i64 3)).setCell ⟨(w.heap.size + 1 + 1), 0, none⟩ (.slice B n d)).setCell ⟨(w.heap.size + 1 + 1), 1, none⟩ (.int .i64 cw)).cell? ⟨(w.heap.size + 1 + 1), 2, none⟩ = some (.int .i64 0) := box_cell B_r 2
      have y_r_7 : ((((((W3.setCell ⟨g, 1, none⟩ (.int .i64 cw)).setCell ⟨g, 2, none⟩ (.int .i64 ca)).setCell ⟨g, 3, none⟩ (.bool ct)).setCell ⟨g, 4, none⟩ (.int .i64 3)).setCell ⟨(w.heap.size + 1 + 1), 0, none⟩ (.slice B n d)).setCell ⟨(w.heap.size + 1 + 1), 1, none⟩ (.int .i64 cw)).frozen? ⟨(w.heap.size + 1 + 1), 2, none⟩ = false := box_free B_r 2
      replace B_p := st_box (g' := (w.heap.size + 1 + 1)) (j := 2) B_p (.int .i64 ca) (by omega)
      replace B_c := st_box (g' := (w.heap.size + 1 + 1)) (j := 2) B_c (.int .i64 ca) (by omega)
      replace B_o := st_box (g' := (w.heap.size + 1 + 1)) (j := 2) B_o (.int .i64 ca) (by omega)
      replace B_r := st_same B_r 2 (.int .i64 ca)
      replace HG := Lib.hid (be_set (g := (w.heap.size + 1 + 1)) (j := 2) (u := .int .i64 ca) HG.out  Z_r)
      replace B_r : Hid ((((((((W3.setCell ⟨g, 1, none⟩ (.int .i64 cw)).setCell ⟨g, 2, none⟩ (.int .i64 ca)).setCell ⟨g, 3, none⟩ (.bool ct)).setCell ⟨g, 4, none⟩ (.int .i64 3)).setCell ⟨(w.heap.size + 1 + 1), 0, none⟩ (.slice B n d)).setCell ⟨(w.heap.size + 1 + 1), 1, none⟩ (.int .i64 cw)).setCell ⟨(w.heap.size + 1 + 1), 2, none⟩ (.int .i64 ca)).heap[(w.heap.size + 1 + 1)]? = some (.cells #[.slice B n d, .int .i64 cw, .int .i64 ca, .bool false, .int .i64 0] 25 (0, 0))) := B_r
      replace HO := Lib.hid (row_setN (g := (w.heap.size + 1 + 1)) (j := 3) (u := .bool ct) HO.out (fun k e => (HNE.out k e).2))
      have k_r_8 : (((((((W3.setCell ⟨g, 1, none⟩ (.int .i64 cw)).setCell ⟨g, 2, none⟩ (.int .i64 ca)).setCell ⟨g, 3, none⟩ (.bool ct)).setCell ⟨g, 4, none⟩ (.int .i64 3)).setCell ⟨(w.heap.size + 1 + 1), 0, none⟩ (.slice B n d)).setCell ⟨(w.heap.size + 1 + 1), 1, none⟩ (.int .i64 cw)).setCell ⟨(w.heap.size + 1 + 1), 2, none⟩ (.int .i64 ca)).cell? ⟨(w.heap.size + 1 + 1), 3, none⟩ = some (.bool false) := box_cell B_r 3
      have y_r_8 : (((((((W3.setCell ⟨g, 1, none⟩ (.int .i64 cw)).setCell ⟨g, 2, none⟩ (.int .i64 ca)).setCell ⟨g, 3, none⟩ (.bool ct)).setCell ⟨g, 4, none⟩ (.int .i64 3)).setCell ⟨(w.heap.size + 1 + 1), 0, none⟩ (.slice B n d)).setCell ⟨(w.heap.size + 1 + 1), 1, none⟩ (.int .i64 cw)).setCell ⟨(w.heap.size + 1 + 1), 2, none⟩ (.int .i64 ca)).frozen? ⟨(w.heap.size + 1 + 1), 3, none⟩ = false := box_free B_r 3
      replace B_p := st_box (g' := (w.heap.size + 1 + 1)) (j := 3) B_p (.bool ct) (by omega)
      replace B_c := st_box (g' := (w.heap.size + 1 + 1)) (j := 3) B_c (.bool ct) (by omega)
      replace B_o := st_box (g' := (w.heap.size + 1 + 1)) (j := 3) B_o (.bool ct) (by omega)
      replace B_r := st_same B_r 3 (.bool ct)
      replace HG := Lib.hid (be_set (g := (w.heap.size + 1 + 1)) (j := 3) (u := .bool ct) HG.out  Z_r)
      replace B_r : Hid (((((((((W3.setCell ⟨g, 1, none⟩ (.int .i64 cw)).setCell ⟨g, 2, none⟩ (.int .i64 ca)).setCell ⟨g, 3, none⟩ (.bool ct)).setCell ⟨g, 4, none⟩ (.int .i64 3)).setCell ⟨(w.heap.size + 1 + 1), 0, none⟩ (.slice B n d)).setCell ⟨(w.heap.size + 1 + 1), 1, none⟩ (.int .i64 cw)).setCell ⟨(w.heap.size + 1 + 1), 2, none⟩ (.int .i64 ca)).setCell ⟨(w.heap.size + 1 + 1), 3, none⟩ (.bool ct)).heap[(w.heap.size + 1 + 1)]? = some (.cells #[.slice B n d, .int .i64 cw, .int .i64 ca, .bool ct, .int .i64 0] 25 (0, 0))) := B_r
      replace HO := Lib.hid (row_setN (g := (w.heap.size + 1 + 1)) (j := 4) (u := .int .i64 3) HO.out (fun k e => (HNE.out k e).2))
      have k_r_9 : ((((((((W3.setCell ⟨g, 1, none⟩ (.int .i64 cw)).setCell ⟨g, 2, none⟩ (.int .i64 ca)).setCell ⟨g, 3, none⟩ (.bool ct)).setCell ⟨g, 4, none⟩ (.int .i64 3)).setCell ⟨(w.heap.size + 1 + 1), 0, none⟩ (.slice B n d)).setCell ⟨(w.heap.size + 1 + 1), 1, none⟩ (.int .i64 cw)).setCell ⟨(w.heap.size + 1 + 1), 2, none⟩ (.int .i64 ca)).setCell ⟨(w.heap.size + 1 + 1), 3, none⟩ (.bool ct)).cell? ⟨(w.heap.size + 1 + 1), 4, none⟩ = some (.int .i64 0) := box_cell B_r 4
      have y_r_9 : ((((((((W3.setCell ⟨g, 1, none⟩ (.int .i64 cw)).setCell ⟨g, 2, none⟩ (.int .i64 ca)).setCell ⟨g, 3, none⟩ (.bool ct)).setCell ⟨g, 4, none⟩ (.int .i64 3)).setCell ⟨(w.heap.size + 1 + 1), 0, none⟩ (.slice B n d)).setCell ⟨(w.heap.size + 1 + 1), 1, none⟩ (.int .i64 cw)).setCell ⟨(w.heap.size + 1 + 1), 2, none⟩ (.int .i64 ca)).setCell ⟨(w.heap.size + 1 + 1), 3, none⟩ (.bool ct)).frozen? ⟨(w.heap.size + 1 + 1), 4, none⟩ = false := box_free B_r 4
      replace B_p := st_box (g' := (w.heap.size + 1 + 1)) (j := 4) B_p (.int .i64 3) (by omega)
      replace B_c := st_box (g' := (w.heap.size + 1 + 1)) (j := 4) B_c (.int .i64 3) (by omega)
      replace B_o := st_box (g' := (w.heap.size + 1 + 1)) (j := 4) B_o (.int .i64 3) (by omega)
      replace B_r := st_same B_r 4 (.int .i64 3)
      replace HG := Lib.hid (be_set (g := (w.heap.size + 1 + 1)) (j := 4) (u := .int .i64 3) HG.out  Z_r)
      replace B_r : Hid ((((((((((W3.setCell ⟨g, 1, none⟩ (.int .i64 cw)).setCell ⟨g, 2, none⟩ (.int .i64 ca)).setCell ⟨g, 3, none⟩ (.bool ct)).setCell ⟨g, 4, none⟩ (.int .i64 3)).setCell ⟨(w.heap.size + 1 + 1), 0, none⟩ (.slice B n d)).setCell ⟨(w.heap.size + 1 + 1), 1, none⟩ (.int .i64 cw)).setCell ⟨(w.heap.size + 1 + 1), 2, none⟩ (.int .i64 ca)).setCell ⟨(w.heap.size + 1 + 1), 3, none⟩ (.bool ct)).setCell ⟨(w.heap.size + 1 + 1), 4, none⟩ (.int .i64 3)).heap[(w.heap.size + 1 + 1)]? = some (.cells #[.slice B n d, .int .i64 cw, .int .i64 ca, .bool ct, .int .i64 3] 25 (0, 0))) := B_r
      have c_r_0 : (((((((((W3.setCell ⟨g, 1, none⟩ (.int .i64 cw)).setCell ⟨g, 2, none⟩ (.int .i64 ca)).setCell ⟨g, 3, none⟩ (.bool ct)).setCell ⟨g, 4, none⟩ (.int .i64 3)).setCell ⟨(w.heap.size + 1 + 1), 0, none⟩ (.slice B n d)).setCell ⟨(w.heap.size + 1 + 1), 1, none⟩ (.int .i64 cw)).setCell ⟨(w.heap.size + 1 + 1), 2, none⟩ (.int .i64 ca)).setCell ⟨(w.heap.size + 1 + 1), 3, none⟩ (.bool ct)).setCell ⟨(w.heap.size + 1 + 1), 4, none⟩ (.int .i64 3)).cell? ⟨(w.heap.size + 1 + 1), 0, none⟩ = some (.slice B n d) := box_cell B_r 0
      have c_r_1 : (((((((((W3.setCell ⟨g, 1, none⟩ (.int .i64 cw)).setCell ⟨g, 2, none⟩ (.int .i64 ca)).setCell ⟨g, 3, none⟩ (.bool ct)).setCell ⟨g, 4, none⟩ (.int .i64 3)).setCell ⟨(w.heap.size + 1 + 1), 0, none⟩ (.slice B n d)).setCell ⟨(w.heap.size + 1 + 1), 1, none⟩ (.int .i64 cw)).setCell ⟨(w.heap.size + 1 + 1), 2, none⟩ (.int .i64 ca)).setCell ⟨(w.heap.size + 1 + 1), 3, none⟩ (.bool ct)).setCell ⟨(w.heap.size + 1 + 1), 4, none⟩ (.int .i64 3)).cell? ⟨(w.heap.size + 1 + 1), 1, none⟩ = some (.int .i64 cw) := box_cell B_r 1
      have c_r_2 : (((((((((W3.setCell ⟨g, 1, none⟩ (.int .i64 cw)).setCell ⟨g, 2, none⟩ (.int .i64 ca)).setCell ⟨g, 3, none⟩ (.bool ct)).setCell ⟨g, 4, none⟩ (.int .i64 3)).setCell ⟨(w.heap.size + 1 + 1), 0, none⟩ (.slice B n d)).setCell ⟨(w.heap.size + 1 + 1), 1, none⟩ (.int .i64 cw)).setCell ⟨(w.heap.size + 1 + 1), 2, none⟩ (.int .i64 ca)).setCell ⟨(w.heap.size + 1 + 1), 3, none⟩ (.bool ct)).setCell ⟨(w.heap.size + 1 + 1), 4, none⟩ (.int .i64 3)).cell? ⟨(w.heap.size + 1 + 1), 2, none⟩ = some (.int .i64 ca) := box_cell B_r 2
      have c_r_3 : (((((((((W3.setCell ⟨g, 1, none⟩ (.int .i64 cw)).setCell ⟨g, 2, none⟩ (.int .i64 ca)).setCell ⟨g, 3, none⟩ (.bool ct)).setCell ⟨g, 4, none⟩ (.int .i64 3)).setCell ⟨(w.heap.size + 1 + 1), 0, none⟩ (.slice B n d)).setCell ⟨(w.heap.size + 1 + 1), 1, none⟩ (.int .i64 cw)).setCell ⟨(w.heap.size + 1 + 1), 2, none⟩ (.int .i64 ca)).setCell ⟨(w.heap.size + 1 + 1), 3, none⟩ (.bool ct)).setCell ⟨(w.heap.size + 1 + 1), 4, none⟩ (.int .i64 3)).cell? ⟨(w.heap.size + 1 + 1), 3, none⟩ = some (.bool ct) := box_cell B_r 3
      have c_r_4 : (((((((((W3.setCell ⟨g, 1, none⟩ (.int .i64 cw)).setCell ⟨g, 2, none⟩ (.int .i64 ca)).setCell ⟨g, 3, none⟩ (.bool ct)).setCell ⟨g, 4, none⟩ (.int .i64 3)).setCell ⟨(w.heap.size + 1 + 1), 0, none⟩ (.slice B n d)).setCell ⟨(w.heap.size + 1 + 1), 1, none⟩ (.int .i64 cw)).setCell ⟨(w.heap.size + 1 + 1), 2, none⟩ (.int .i64 ca)).setCell ⟨(w.heap.size + 1 + 1), 3, none⟩ (.bool ct)).setCell ⟨(w.heap.size + 1 + 1), 4, none⟩ (.int .i64 3)).cell? ⟨(w.heap.size + 1 + 1), 4, none⟩ = some (.int .i64 3) := box_cell B_r 4
      go_wp2_with fail
      exact bodyPost_ret (v := .tuple #[.agg #[.slice B n d, .int .i64 cw, .int .i64 ca, .bool ct, .int .i64 3], .bool true]) (by simp [results, Tryd.results14, go_sem, c_r_0, c_r_1, c_r_2, c_r_3, c_r_4]) rfl ⟨on, _, _, _, _, _, _, _, rfl, HN.out, HSEL.out, row_mono HO.out (by omega), HG.out⟩
    | false =>
      clear hs
      go_upto_region 10 with fail
      go_cut [58] from 59 (fun s58 wx => s58 = .bool (opB who i tb kind cw ca ct) ∧ W3 = wx)
      case first =>
        have c_p_1 : W3.cell? ⟨w.heap.size, 1, none⟩ = some (.int .i64 who) := box_cell B_p 1
        have c_p_2 : W3.cell? ⟨w.heap.size, 2, none⟩ = some (.int .i64 i) := box_cell B_p 2
        have c_p_3 : W3.cell? ⟨w.heap.size, 3, none⟩ = some (.bool tb) := box_cell B_p 3
        have c_c_0 : W3.cell? ⟨(w.heap.size + 1), 0, none⟩ = some (.int .i64 kind) := box_cell B_c 0
        have c_c_1 : W3.cell? ⟨(w.heap.size + 1), 1, none⟩ = some (.int .i64 cw) := box_cell B_c 1
        have c_c_2 : W3.cell? ⟨(w.heap.size + 1), 2, none⟩ = some (.int .i64 ca) := box_cell B_c 2
        have c_c_3 : W3.cell? ⟨(w.heap.size + 1), 3, none⟩ = some (.bool ct) := box_cell B_c 3
        have HS : Hid (opB who i tb kind cw ca ct = ((kind == 1) && (decide (0 ≤ who) && ((cw == who) && ((ca == i) && (ct == tb)))))) := rfl
        clear hra B_p B_c B_r B_o HG HO HA HNIL HV HNE
        cases e1 : (kind == 1) with
        | false =>
          go_wp2_with fail
          go_meet
          case rel => exact ⟨by rw [HS.out]; first | (rw [e1]; rfl) | (rw [e1, e2]; rfl) | (rw [e1, e2, e3]; rfl) | (rw [e1, e2, e3, e4]; rfl) | (rw [e1, e2, e3, e4, e5]; rfl), rfl⟩
        | true =>
          cases e2 : decide (0 ≤ who) with
          | false =>
            go_wp2_with fail
            go_meet
            case rel => exact ⟨by rw [HS.out]; first | (rw [e1]; rfl) | (rw [e1, e2]; rfl) | (rw [e1, e2, e3]; rfl) | (rw [e1, e2, e3, e4]; rfl) | (rw [e1, e2, e3, e4, e5]; rfl), rfl⟩
          | true =>
            cases e3 : (cw == who) with
            | false =>
              go_wp2_with fail
              go_meet
              case rel => exact ⟨by rw [HS.out]; first | (rw [e1]; rfl) | (rw [e1, e2]; rfl) | (rw [e1, e2, e3]; rfl) | (rw [e1, e2, e3, e4]; rfl) | (rw [e1, e2, e3, e4, e5]; rfl), rfl⟩
            | true =>
              cases e4 : (ca == i) with
              | false =>
                go_wp2_with fail
                go_meet
                case rel => exact ⟨by rw [HS.out]; first | (rw [e1]; rfl) | (rw [e1, e2]; rfl) | (rw [e1, e2, e3]; rfl) | (rw [e1, e2, e3, e4]; rfl) | (rw [e1, e2, e3, e4, e5]; rfl), rfl⟩
              | true =>
                cases e5 : (ct == tb) with
                | false =>
                  go_wp2_with fail
                  go_meet
                  case rel => exact ⟨by rw [HS.out]; first | (rw [e1]; rfl) | (rw [e1, e2]; rfl) | (rw [e1, e2, e3]; rfl) | (rw [e1, e2, e3, e4]; rfl) | (rw [e1, e2, e3, e4, e5]; rfl), rfl⟩
                | true =>
                  go_wp2_with fail
                  go_meet
                  case rel => exact ⟨by rw [HS.out]; first | (rw [e1]; rfl) | (rw [e1, e2]; rfl) | (rw [e1, e2, e3]; rfl) | (rw [e1, e2, e3, e4]; rfl) | (rw [e1, e2, e3, e4, e5]; rfl), rfl⟩
      case rest =>
        obtain ⟨rfl, rfl⟩ := hcut
        cases ho : opB who i tb kind cw ca ct with
        | true =>
          have hw0 : 0 ≤ who := by simp [opB] at ho; omega
          obtain ⟨hi0, hi1⟩ := pan_at HV.out hw0
          rw [HN.out] at hi1
          obtain ⟨j, rfl⟩ := Int.eq_ofNat_of_zero_le hi0
          have hn0 : 0 < n := by omega
          have hjz : (j : Int) < (n : Int) := hi1
          have hj0 : (0 : Int) ≤ (j : Int) := hi0
          have HJN : Hid (j < n) := by rw [Hid]; omega
          clear ho hi0 hi1 hw0
          have c_p_0 : W3.cell? ⟨w.heap.size, 0, none⟩ = some (.slice A n c) := box_cell B_p 0
          have c_p_1 : W3.cell? ⟨w.heap.size, 1, none⟩ = some (.int .i64 who) := box_cell B_p 1
          have c_p_2 : W3.cell? ⟨w.heap.size, 2, none⟩ = some (.int .i64 (j : Int)) := box_cell B_p 2
          have c_p_3 : W3.cell? ⟨w.heap.size, 3, none⟩ = some (.bool tb) := box_cell B_p 3
          have c_p_4 : W3.cell? ⟨w.heap.size, 4, none⟩ = some (.int .i64 left) := box_cell B_p 4
          have M_o : g < W3.heap.size := blk_lt B_o.out
          go_wp2_with fail
          refine (clearP A n c on who j tb left _ HN.out hm HNIL.out hra).mono ?_
          rintro e w4 ⟨B2, d2, rfl, hr2, hbn⟩
          replace HG := Lib.hid (seqB HG.out hbn)
          replace HO := Lib.hid hr2
          obtain ⟨g2, rfl, hg2⟩ := row_addr HO.out hn0
          clear hr2 hra HNE
          replace B_p := be_box B_p hbn
          replace B_c := be_box B_c hbn
          replace B_r := be_box B_r hbn
          replace B_o := be_box B_o hbn
          clear hbn
          clear c_p_0 c_p_1 c_p_2 c_p_3 c_p_4
          replace HO := Lib.hid (row_setP (g := g) (j := 0) (u := .slice (some ⟨g2, 0, none⟩) n d2) HO.out M_o)
          have k_o_1 : w4.cell? ⟨g, 0, none⟩ = some (.slice B n d) := box_cell B_o 0
          have y_o_1 : w4.frozen? ⟨g, 0, none⟩ = false := box_free B_o 0
          replace B_p := st_box (g' := g) (j := 0) B_p (.slice (some ⟨g2, 0, none⟩) n d2) (by omega)
          replace B_c := st_box (g' := g) (j := 0) B_c (.slice (some ⟨g2, 0, none⟩) n d2) (by omega)
          replace B_r := st_box (g' := g) (j := 0) B_r (.slice (some ⟨g2, 0, none⟩) n d2) (by omega)
          replace B_o := st_same B_o 0 (.slice (some ⟨g2, 0, none⟩) n d2)
          replace HG := Lib.hid (be_set (g := g) (j := 0) (u := .slice (some ⟨g2, 0, none⟩) n d2) HG.out  Z_o)
          replace B_o : Hid ((w4.setCell ⟨g, 0, none⟩ (.slice (some ⟨g2, 0, none⟩) n d2)).heap[g]? = some (.cells #[.slice (some ⟨g2, 0, none⟩) n d2, .int .i64 who, .int .i64 (j : Int), .bool tb, .int .i64 left] 25 (0, 0))) := B_o
          replace HO := Lib.hid (row_setP (g := g) (j := 1) (u := .int .i64 (-1)) HO.out M_o)
          have k_o_2 : (w4.setCell ⟨g, 0, none⟩ (.slice (some ⟨g2, 0, none⟩) n d2)).cell? ⟨g, 1, none⟩ = some (.int .i64 who) := box_cell B_o 1
          have y_o_2 : (w4.setCell ⟨g, 0, none⟩ (.slice (some ⟨g2, 0, none⟩) n d2)).frozen? ⟨g, 1, none⟩ = false := box_free B_o 1
          replace B_p := st_box (g' := g) (j := 1) B_p (.int .i64 (-1)) (by omega)
          replace B_c := st_box (g' := g) (j := 1) B_c (.int .i64 (-1)) (by omega)
          replace B_r := st_box (g' := g) (j := 1) B_r (.int .i64 (-1)) (by omega)
          replace B_o := st_same B_o 1 (.int .i64 (-1))
          replace HG := Lib.hid (be_set (g := g) (j := 1) (u := .int .i64 (-1)) HG.out  Z_o)
          replace B_o : Hid (((w4.setCell ⟨g, 0, none⟩ (.slice (some ⟨g2, 0, none⟩) n d2)).setCell ⟨g, 1, none⟩ (.int .i64 (-1))).heap[g]? = some (.cells #[.slice (some ⟨g2, 0, none⟩) n d2, .int .i64 (-1), .int .i64 (j : Int), .bool tb, .int .i64 left] 25 (0, 0))) := B_o
          replace HO := Lib.hid (row_setP (g := g) (j := 2) (u := .int .i64 0) HO.out M_o)
          have k_o_3 : ((w4.setCell ⟨g, 0, none⟩ (.slice (some ⟨g2, 0, none⟩) n d2)).setCell ⟨g, 1, none⟩ (.int .i64 (-1))).cell? ⟨g, 2, none⟩ = some (.int .i64 (j : Int)) := box_cell B_o 2
          have y_o_3 : ((w4.setCell ⟨g, 0, none⟩ (.slice (some ⟨g2, 0, none⟩) n d2)).setCell ⟨g, 1, none⟩ (.int .i64 (-1))).frozen? ⟨g, 2, none⟩ = false := box_free B_o 2
          replace B_p := st_box (g' := g) (j := 2) B_p (.int .i64 0) (by omega)
          replace B_c := st_box (g' := g) (j := 2) B_c (.int .i64 0) (by omega)
          replace B_r := st_box (g' := g) (j := 2) B_r (.int .i64 0) (by omega)
          replace B_o := st_same B_o 2 (.int .i64 0)
          replace HG := Lib.hid (be_set (g := g) (j := 2) (u := .int .i64 0) HG.out  Z_o)
          replace B_o : Hid ((((w4.setCell ⟨g, 0, none⟩ (.slice (some ⟨g2, 0, none⟩) n d2)).setCell ⟨g, 1, none⟩ (.int .i64 (-1))).setCell ⟨g, 2, none⟩ (.int .i64 0)).heap[g]? = some (.cells #[.slice (some ⟨g2, 0, none⟩) n d2, .int .i64 (-1), .int .i64 0, .bool tb, .int .i64 left] 25 (0, 0))) := B_o
          replace HO := Lib.hid (row_setP (g := g) (j := 3) (u := .bool false) HO.out M_o)
          have k_o_4 : (((w4.setCell ⟨g, 0, none⟩ (.slice (some ⟨g2, 0, none⟩) n d2)).setCell ⟨g, 1, none⟩ (.int .i64 (-1))).setCell ⟨g, 2, none⟩ (.int .i64 0)).cell? ⟨g, 3, none⟩ = some (.bool tb) := box_cell B_o 3
          have y_o_4 : (((w4.setCell ⟨g, 0, none⟩ (.slice (some ⟨g2, 0, none⟩) n d2)).setCell ⟨g, 1, none⟩ (.int .i64 (-1))).setCell ⟨g, 2, none⟩ (.int .i64 0)).frozen? ⟨g, 3, none⟩ = false := box_free B_o 3
          replace B_p := st_box (g' := g) (j := 3) B_p (.bool false) (by omega)
          replace B_c := st_box (g' := g) (j := 3) B_c (.bool false) (by omega)
          replace B_r := st_box (g' := g) (j := 3) B_r (.bool false) (by omega)
          replace B_o := st_same B_o 3 (.bool false)
          replace HG := Lib.hid (be_set (g := g) (j := 3) (u := .bool false) HG.out  Z_o)
          replace B_o : Hid (((((w4.setCell ⟨g, 0, none⟩ (.slice (some ⟨g2, 0, none⟩) n d2)).setCell ⟨g, 1, none⟩ (.int .i64 (-1))).setCell ⟨g, 2, none⟩ (.int .i64 0)).setCell ⟨g, 3, none⟩ (.bool false)).heap[g]? = some (.cells #[.slice (some ⟨g2, 0, none⟩) n d2, .int .i64 (-1), .int .i64 0, .bool false, .int .i64 left] 25 (0, 0))) := B_o
          replace HO := Lib.hid (row_setP (g := g) (j := 4) (u := .int .i64 0) HO.out M_o)
          have k_o_5 : ((((w4.setCell ⟨g, 0, none⟩ (.slice (some ⟨g2, 0, none⟩) n d2)).setCell ⟨g, 1, none⟩ (.int .i64 (-1))).setCell ⟨g, 2, none⟩ (.int .i64 0)).setCell ⟨g, 3, none⟩ (.bool false)).cell? ⟨g, 4, none⟩ = some (.int .i64 left) := box_cell B_o 4
          have y_o_5 : ((((w4.setCell ⟨g, 0, none⟩ (.slice (some ⟨g2, 0, none⟩) n d2)).setCell ⟨g, 1, none⟩ (.int .i64 (-1))).setCell ⟨g, 2, none⟩ (.int .i64 0)).setCell ⟨g, 3, none⟩ (.bool false)).frozen? ⟨g, 4, none⟩ = false := box_free B_o 4
          replace B_p := st_box (g' := g) (j := 4) B_p (.int .i64 0) (by omega)
          replace B_c := st_box (g' := g) (j := 4) B_c (.int .i64 0) (by omega)
          replace B_r := st_box (g' := g) (j := 4) B_r (.int .i64 0) (by omega)
          replace B_o := st_same B_o 4 (.int .i64 0)
          replace HG := Lib.hid (be_set (g := g) (j := 4) (u := .int .i64 0) HG.out  Z_o)
          replace B_o : Hid ((((((w4.setCell ⟨g, 0, none⟩ (.slice (some ⟨g2, 0, none⟩) n d2)).setCell ⟨g, 1, none⟩ (.int .i64 (-1))).setCell ⟨g, 2, none⟩ (.int .i64 0)).setCell ⟨g, 3, none⟩ (.bool false)).setCell ⟨g, 4, none⟩ (.int .i64 0)).heap[g]? = some (.cells #[.slice (some ⟨g2, 0, none⟩) n d2, .int .i64 (-1), .int .i64 0, .bool false, .int .i64 0] 25 (0, 0))) := B_o
          have hcj : (((((w4.setCell ⟨g, 0, none⟩ (.slice (some ⟨g2, 0, none⟩) n d2)).setCell ⟨g, 1, none⟩ (.int .i64 (-1))).setCell ⟨g, 2, none⟩ (.int .i64 0)).setCell ⟨g, 3, none⟩ (.bool false)).setCell ⟨g, 4, none⟩ (.int .i64 0)).cell? ⟨g2, j, none⟩ = some (.bool (on.getD j false)) := by obtain ⟨b9, o9, e9, _, h9⟩ := (rd_of_row HO.out).bool (k := j) (by rw [HN.out]; exact HJN.out); cases e9; rwa [Nat.zero_add] at h9
          have hfj : (((((w4.setCell ⟨g, 0, none⟩ (.slice (some ⟨g2, 0, none⟩) n d2)).setCell ⟨g, 1, none⟩ (.int .i64 (-1))).setCell ⟨g, 2, none⟩ (.int .i64 0)).setCell ⟨g, 3, none⟩ (.bool false)).setCell ⟨g, 4, none⟩ (.int .i64 0)).frozen? ⟨g2, j, none⟩ = false := row_free HO.out j
          have c_o_0 : (((((w4.setCell ⟨g, 0, none⟩ (.slice (some ⟨g2, 0, none⟩) n d2)).setCell ⟨g, 1, none⟩ (.int .i64 (-1))).setCell ⟨g, 2, none⟩ (.int .i64 0)).setCell ⟨g, 3, none⟩ (.bool false)).setCell ⟨g, 4, none⟩ (.int .i64 0)).cell? ⟨g, 0, none⟩ = some (.slice (some ⟨g2, 0, none⟩) n d2) := box_cell B_o 0
          have c_p_2 : (((((w4.setCell ⟨g, 0, none⟩ (.slice (some ⟨g2, 0, none⟩) n d2)).setCell ⟨g, 1, none⟩ (.int .i64 (-1))).setCell ⟨g, 2, none⟩ (.int .i64 0)).setCell ⟨g, 3, none⟩ (.bool false)).setCell ⟨g, 4, none⟩ (.int .i64 0)).cell? ⟨w.heap.size, 2, none⟩ = some (.int .i64 (j : Int)) := box_cell B_p 2
          have c_p_3 : (((((w4.setCell ⟨g, 0, none⟩ (.slice (some ⟨g2, 0, none⟩) n d2)).setCell ⟨g, 1, none⟩ (.int .i64 (-1))).setCell ⟨g, 2, none⟩ (.int .i64 0)).setCell ⟨g, 3, none⟩ (.bool false)).setCell ⟨g, 4, none⟩ (.int .i64 0)).cell? ⟨w.heap.size, 3, none⟩ = some (.bool tb) := box_cell B_p 3
          replace HO := Lib.hid (row_st HO.out j (.bool tb))
          rw [bools_set] at HO
          replace B_p := st_box (g' := g2) (j := j) B_p (.bool tb) (by omega)
          replace B_c := st_box (g' := g2) (j := j) B_c (.bool tb) (by omega)
          replace B_r := st_box (g' := g2) (j := j) B_r (.bool tb) (by omega)
          replace B_o := st_box (g' := g2) (j := j) B_o (.bool tb) (by omega)
          replace HG := Lib.hid (be_set (g := g2) (j := j) (u := .bool tb) HG.out (by omega))
          have HPV : Hid (panB (on.set j tb) (-1) 0 false 0 = true) := pan_clr (by rw [List.length_set]; exact pan_ln HV.out)
          have c_o_0 : ((((((w4.setCell ⟨g, 0, none⟩ (.slice (some ⟨g2, 0, none⟩) n d2)).setCell ⟨g, 1, none⟩ (.int .i64 (-1))).setCell ⟨g, 2, none⟩ (.int .i64 0)).setCell ⟨g, 3, none⟩ (.bool false)).setCell ⟨g, 4, none⟩ (.int .i64 0)).setCell ⟨g2, j, none⟩ (.bool tb)).cell? ⟨g, 0, none⟩ = some (.slice (some ⟨g2, 0, none⟩) n d2) := box_cell B_o 0
          have c_o_1 : ((((((w4.setCell ⟨g, 0, none⟩ (.slice (some ⟨g2, 0, none⟩) n d2)).setCell ⟨g, 1, none⟩ (.int .i64 (-1))).setCell ⟨g, 2, none⟩ (.int .i64 0)).setCell ⟨g, 3, none⟩ (.bool false)).setCell ⟨g, 4, none⟩ (.int .i64 0)).setCell ⟨g2, j, none⟩ (.bool tb)).cell? ⟨g, 1, none⟩ = some (.int .i64 (-1)) := box_cell B_o 1
          have c_o_2 : ((((((w4.setCell ⟨g, 0, none⟩ (.slice (some ⟨g2, 0, none⟩) n d2)).setCell ⟨g, 1, none⟩ (.int .i64 (-1))).setCell ⟨g, 2, none⟩ (.int .i64 0)).setCell ⟨g, 3, none⟩ (.bool false)).setCell ⟨g, 4, none⟩ (.int .i64 0)).setCell ⟨g2, j, none⟩ (.bool tb)).cell? ⟨g, 2, none⟩ = some (.int .i64 0) := box_cell B_o 2
          have c_o_3 : ((((((w4.setCell ⟨g, 0, none⟩ (.slice (some ⟨g2, 0, none⟩) n d2)).setCell ⟨g, 1, none⟩ (.int .i64 (-1))).setCell ⟨g, 2, none⟩ (.int .i64 0)).setCell ⟨g, 3, none⟩ (.bool false)).setCell ⟨g, 4, none⟩ (.int .i64 0)).setCell ⟨g2, j, none⟩ (.bool tb)).cell? ⟨g, 3, none⟩ = some (.bool false) := box_cell B_o 3
          have c_o_4 : ((((((w4.setCell ⟨g, 0, none⟩ (.slice (some ⟨g2, 0, none⟩) n d2)).setCell ⟨g, 1, none⟩ (.int .i64 (-1))).setCell ⟨g, 2, none⟩ (.int .i64 0)).setCell ⟨g, 3, none⟩ (.bool false)).setCell ⟨g, 4, none⟩ (.int .i64 0)).setCell ⟨g2, j, none⟩ (.bool tb)).cell? ⟨g, 4, none⟩ = some (.int .i64 0) := box_cell B_o 4
          replace HO := Lib.hid (row_setP (g := (w.heap.size + 1 + 1)) (j := 0) (u := .slice (some ⟨g2, 0, none⟩) n d2) HO.out (by omega))
          have k_r_6 : ((((((w4.setCell ⟨g, 0, none⟩ (.slice (some ⟨g2, 0, none⟩) n d2)).setCell ⟨g, 1, none⟩ (.int .i64 (-1))).setCell ⟨g, 2, none⟩ (.int .i64 0)).setCell ⟨g, 3, none⟩ (.bool false)).setCell ⟨g, 4, none⟩ (.int .i64 0)).setCell ⟨g2, j, none⟩ (.bool tb)).cell? ⟨(w.heap.size + 1 + 1), 0, none⟩ = some (.slice none 0 0) := box_cell B_r 0
          have y_r_6 : ((((((w4.setCell ⟨g, 0, none⟩ (.slice (some ⟨g2, 0, none⟩) n d2)).setCell ⟨g, 1, none⟩ (.int .i64 (-1))).setCell ⟨g, 2, none⟩ (.int .i64 0)).setCell ⟨g, 3, none⟩ (.bool false)).setCell ⟨g, 4, none⟩ (.int .i64 0)).setCell ⟨g2, j, none⟩ (.bool tb)).frozen? ⟨(w.heap.size + 1 + 1), 0, none⟩ = false := box_free B_r 0
          replace B_p := st_box (g' := (w.heap.size + 1 + 1)) (j := 0) B_p (.slice (some ⟨g2, 0, none⟩) n d2) (by omega)
          replace B_c := st_box (g' := (w.heap.size + 1 + 1)) (j := 0) B_c (.slice (some ⟨g2, 0, none⟩) n d2) (by omega)
          replace B_o := st_box (g' := (w.heap.size + 1 + 1)) (j := 0) B_o (.slice (some ⟨g2, 0, none⟩) n d2) (by omega)
          replace B_r := st_same B_r 0 (.slice (some ⟨g2, 0, none⟩) n d2)
          replace HG := Lib.hid (be_set (g := (w.heap.size + 1 + 1)) (j := 0) (u := .slice (some ⟨g2, 0, none⟩) n d2) HG.out  Z_r)
          replace B_r : Hid ((((((((w4.setCell ⟨g, 0, none⟩ (.slice (some ⟨g2, 0, none⟩) n d2)).setCell ⟨g, 1, none⟩ (.int .i64 (-1))).setCell ⟨g, 2, none⟩ (.int .i64 0)).setCell ⟨g, 3, none⟩ (.bool false)).setCell ⟨g, 4, none⟩ (.int .i64 0)).setCell ⟨g2, j, none⟩ (.bool tb)).setCell ⟨(w.heap.size + 1 + 1), 0, none⟩ (.slice (some ⟨g2, 0, none⟩) n d2)).heap[(w.heap.size + 1 + 1)]? = some (.cells #[.slice (some ⟨g2, 0, none⟩) n d2, .int .i64 0, .int .i64 0, .bool false, .int .i64 0] 25 (0, 0))) := B_r
          replace HO := Lib.hid (row_setP (g := (w.heap.size + 1 + 1)) (j := 1) (u := .int .i64 (-1)) HO.out (by omega))
          have k_r_7 : (((((((w4.setCell ⟨g, 0, none⟩ (.slice (some ⟨g2, 0, none⟩) n d2)).setCell ⟨g, 1, none⟩ (.int .i64 (-1))).setCell ⟨g, 2, none⟩ (.int .i64 0)).setCell ⟨g, 3, none⟩ (.bool false)).setCell ⟨g, 4, none⟩ (.int .i64 0)).setCell ⟨g2, j, none⟩ (.bool tb)).setCell ⟨(w.heap.size + 1 + 1), 0, none⟩ (.slice (some ⟨g2, 0, none⟩) n d2)).cell? ⟨(w.heap.size + 1 + 1), 1, none⟩ = some (.int .i64 0) := box_cell B_r 1
          have y_r_7 : (((((((w4.setCell ⟨g, 0, none⟩ (.slice (some ⟨g2, 0, none⟩) n d2)).setCell ⟨g, 1, none⟩ (.int .i64 (-1))).setCell ⟨g, 2, none⟩ (.int .i64 0)).setCell ⟨g, 3, none⟩ (.bool false)).setCell ⟨g, 4, none⟩ (.int .i64 0)).setCell ⟨g2, j, none⟩ (.bool tb)).setCell ⟨(w.heap.size + 1 + 1), 0, none⟩ (.slice (some ⟨g2, 0, none⟩) n d2)).frozen? ⟨(w.heap.size + 1 + 1), 1, none⟩ = false := box_free B_r 1
          replace B_p := st_box (g' := (w.heap.size + 1 + 1)) (j := 1) B_p (.int .i64 (-1)) (by omega)
          replace B_c := st_box (g' := (w.heap.size + 1 + 1)) (j := 1) B_c (.int .i64 (-1)) (by omega)
          replace B_o := st_box (g' := (w.heap.size + 1 + 1)) (j := 1) B_o (.int .i64 (-1)) (by omega)
          replace B_r := st_same B_r 1 (.int .i64 (-1))
          replace HG := Lib.hid (be_set (g := (w.heap.size + 1 + 1)) (j := 1) (u := .int .i64 (-1)) HG.out  Z_r)
          replace B_r : Hid (((((((((w4.setCell ⟨g, 0, none⟩ (.slice (some ⟨g2, 0, none⟩) n d2)).setCell ⟨g, 1, none⟩ (.int .i64 (-1))).setCell ⟨g, 2, none⟩ (.int .i64 0)).setCell ⟨g, 3, none⟩ (.bool false)).setCell ⟨g, 4, none⟩ (.int .i64 0)).setCell ⟨g2, j, none⟩ (.bool tb)).setCell ⟨(w.heap.size + 1 + 1), 0, none⟩ (.slice (some ⟨g2, 0, none⟩) n d2)).setCell ⟨(w.heap.size + 1 + 1), 1, none⟩ (.int .i64 (-1))).heap[(w.heap.size + 1 + 1)]? = some (.cells #[.slice (some ⟨g2, 0, none⟩) n d2, .int .i64 (-1), .int .i64 0, .bool false, .int .i64 0] 25 (0, 0))) := B_r
          replace HO := Lib.hid (row_setP (g := (w.heap.size + 1 + 1)) (j := 2) (u := .int .i64 0) HO.out (by omega))
          have k_r_8 : ((((((((w4.setCell ⟨g, 0, none⟩ (.slice (some ⟨g2, 0, none⟩) n d2)).setCell ⟨g, 1, none⟩ (.int .i64 (-1))).setCell ⟨g, 2, none⟩ (.int .i64 0)).setCell ⟨g, 3, none⟩ (.bool false)).setCell ⟨g, 4, none⟩ (.int .i64 0)).setCell ⟨g2, j, none⟩ (.bool tb)).setCell ⟨(w.heap.size + 1 + 1), 0, none⟩ (.slice (some ⟨g2, 0, none⟩) n d2)).setCell ⟨(w.heap.size + 1 + 1), 1, none⟩ (.int .i64 (-1))).cell? ⟨(w.heap.size + 1 + 1), 2, none⟩ = some (.int .i64 0) := box_cell B_r 2
          have y_r_8 : ((((((((w4.setCell ⟨g, 0, none⟩ (.slice (some ⟨g2, 0, none⟩) n d2)).setCell ⟨g, 1, none⟩ (.int .i64 (-1))).setCell ⟨g, 2, none⟩ (.int .i64 0)).setCell ⟨g, 3, none⟩ (.bool false)).setCell ⟨g, 4, none⟩ (.int .i64 0)).setCell ⟨g2, j, none⟩ (.bool tb)).setCell ⟨(w.heap.size + 1 + 1), 0, none⟩ (.slice (some ⟨g2, 0, none⟩) n d2)).setCell ⟨(w.heap.size + 1 + 1), 1, none⟩ (.int .i64 (-1))).frozen? ⟨(w.heap.size + 1 + 1), 2, none⟩ = false := box_free B_r 2
          replace B_p := st_box (g' := (w.heap.size + 1 + 1)) (j := 2) B_p (.int .i64 0) (by omega)
          replace B_c := st_box (g' := (w.heap.size + 1 + 1)) (j := 2) B_c (.int .i64 0) (by omega)
          replace B_o := st_box (g' := (w.heap.size + 1 + 1)) (j := 2) B_o (.int .i64 0) (by omega)
          replace B_r := st_same B_r 2 (.int .i64 0)
          replace HG := Lib.hid (be_set (g := (w.heap.size + 1 + 1)) (j := 2) (u := .int .i64 0) HG.out  Z_r)
          replace B_r : Hid ((((((((((w4.setCell ⟨g, 0, none⟩ (.slice (some ⟨g2, 0, none⟩) n d2)).setCell ⟨g, 1, none⟩ (.int .i64 (-1))).setCell ⟨g, 2, none⟩ (.int .i64 0)).setCell ⟨g, 3, none⟩ (.bool false)).setCell ⟨g, 4, none⟩ (.int .i64 0)).setCell ⟨g2, j, none⟩ (.bool tb)).setCell ⟨(w.heap.size + 1 + 1), 0, none⟩ (.slice (some ⟨g2, 0, none⟩) n d2)).setCell ⟨(w.heap.size + 1 + 1), 1, none⟩ (.int .i64 (-1))).setCell ⟨(w.heap.size + 1 + 1), 2, none⟩ (.int .i64 0)).heap[(w.heap.size + 1 + 1)]? = some (.cells #[.slice (some ⟨g2, 0, none⟩) n d2, .int .i64 (-1), .int .i64 0, .bool false, .int .i64 0] 25 (0, 0))) := B_r
          replace HO := Lib.hid (row_setP (g := (w.heap.size + 1 + 1)) (j := 3) (u := .bool false) HO.out (by omega))
          have k_r_9 : (((((((((w4.setCell ⟨g, 0, none⟩ (.slice (some ⟨g2, 0, none⟩) n d2)).setCell ⟨g, 1, none⟩ (.int .i64 (-1))).setCell ⟨g, 2, none⟩ (.int .i64 0)).setCell ⟨g, 3, none⟩ (.bool false)).setCell ⟨g, 4, none⟩ (.int .i64 0)).setCell ⟨g2, j, none⟩ (.bool tb)).setCell ⟨(w.heap.size + 1 + 1), 0, none⟩ (.slice (some ⟨g2, 0, none⟩) n d2)).setCell ⟨(w.heap.size + 1 + 1), 1, none⟩ (.int .i64 (-1))).setCell ⟨(w.heap.size + 1 + 1), 2, none⟩ (.int .i64 0)).cell? ⟨(w.heap.size + 1 + 1), 3, none⟩ = some (.bool false) := box_cell B_r 3
          have y_r_9 : (((((((((w4.setCell ⟨g, 0, none⟩ (.slice (some ⟨g2, 0, none⟩) n d2)).setCell ⟨g, 1, none⟩ (.int .i64 (-1))).setCell ⟨g, 2, none⟩ (.int .i64 0)).setCell ⟨g, 3, none⟩ (.bool false)).setCell ⟨g, 4, none⟩ (.int .i64 0)).setCell ⟨g2, j, none⟩ (.bool tb)).setCell ⟨(w.heap.size + 1 + 1), 0, none⟩ (.slice (some ⟨g2, 0, none⟩) n d2)).setCell ⟨(w.heap.size + 1 + 1), 1, none⟩ (.int .i64 (-1))).setCell ⟨(w.heap.size + 1 + 1), 2, none⟩ (.int .i64 0)).frozen? ⟨(w.heap.size + 1 + 1), 3, none⟩ = false := box_free B_r 3
          replace B_p := st_box (g' := (w.heap.size + 1 + 1)) (j := 3) B_p (.bool false) (by omega)
          replace B_c := st_box (g' := (w.heap.size + 1 + 1)) (j := 3) B_c (.bool false) (by omega)
          replace B_o := st_box (g' := (w.heap.size + 1 + 1)) (j := 3) B_o (.bool false) (by omega)
          replace B_r := st_same B_r 3 (.bool false)
          replace HG := Lib.hid (be_set (g := (w.heap.size + 1 + 1)) (j := 3) (u := .bool false) HG.out  Z_r)
          replace B_r : Hid (((((((((((w4.setCell ⟨g, 0, none⟩ (.slice (some ⟨g2, 0, none⟩) n d2)).setCell ⟨g, 1, none⟩ (.int .i64 (-1))).setCell ⟨g, 2, none⟩ (.int .i64 0)).setCell ⟨g, 3, none⟩ (.bool false)).setCell ⟨g, 4, none⟩ (.int .i64 0)).setCell ⟨g2, j, none⟩ (.bool tb)).setCell ⟨(w.heap.size + 1 + 1), 0, none⟩ (.slice (some ⟨g2, 0, none⟩) n d2)).setCell ⟨(w.heap.size + 1 + 1), 1, none⟩ (.int .i64 (-1))).setCell ⟨(w.heap.size + 1 + 1), 2, none⟩ (.int .i64 0)).setCell ⟨(w.heap.size + 1 + 1), 3, none⟩ (.bool false)).heap[(w.heap.size + 1 + 1)]? = some (.cells #[.slice (some ⟨g2, 0, none⟩) n d2, .int .i64 (-1), .int .i64 0, .bool false, .int .i64 0] 25 (0, 0))) := B_r
          replace HO := Lib.hid (row_setP (g := (w.heap.size + 1 + 1)) (j := 4) (u := .int .i64 0) HO.out (by omega))
          have k_r_10 : ((((((((((w4.setCell ⟨g, 0, none⟩ (.slice (some ⟨g2, 0, none⟩) n d2)).setCell ⟨g, 1, none⟩ (.int .i64 (-1))).setCell ⟨g, 2, none⟩ (.int .i64 0)).setCell ⟨g, 3, none⟩ (.bool false)).setCell ⟨g, 4, none⟩ (.int .i64 0)).setCell ⟨g2, j, none⟩ (.bool tb)).setCell ⟨(w.heap.size + 1 + 1), 0, none⟩ (.slice (some ⟨g2, 0, none⟩) n d2)).setCell ⟨(w.heap.size + 1 + 1), 1, none⟩ (.int .i64 (-1))).setCell ⟨(w.heap.size + 1 + 1), 2, none⟩ (.int .i64 0)).setCell ⟨(w.heap.size + 1 + 1), 3, none⟩ (.bool false)).cell? ⟨(w.heap.size + 1 + 1), 4, none⟩ = some (.int .i64 0) := box_cell B_r 4
          have y_r_10 : ((((((((((w4.setCell ⟨g, 0, none⟩ (.slice (some ⟨g2, 0, none⟩) n d2)).setCell ⟨g, 1, none⟩ (.int .i64 (-1))).setCell ⟨g, 2, none⟩ (.int .i64 0)).setCell ⟨g, 3, none⟩ (.bool false)).setCell ⟨g, 4, none⟩ (.int .i64 0)).setCell ⟨g2, j, none⟩ (.bool tb)).setCell ⟨(w.heap.size + 1 + 1), 0, none⟩ (.slice (some ⟨g2, 0, none⟩) n d2)).setCell ⟨(w.heap.size + 1 + 1), 1, none⟩ (.int .i64 (-1))).setCell ⟨(w.heap.size + 1 + 1), 2, none⟩ (.int .i64 0)).setCell ⟨(w.heap.size + 1 + 1), 3, none⟩ (.bool false)).frozen? ⟨(w.heap.size + 1 + 1), 4, none⟩ = false := box_free B_r 4
          replace B_p := st_box (g' := (w.heap.size + 1 + 1)) (j := 4) B_p (.int .i64 0) (by omega)
          replace B_c := st_box (g' := (w.heap.size + 1 + 1)) (j := 4) B_c (.int .i64 0) (by omega)
          replace B_o := st_box (g' := (w.heap.size + 1 + 1)) (j := 4) B_o (.int .i64 0) (by omega)
          replace B_r := st_same B_r 4 (.int .i64 0)
          replace HG := Lib.hid (be_set (g := (w.heap.size + 1 + 1)) (j := 4) (u := .int .i64 0) HG.out  Z_r)
          replace B_r : Hid ((((((((((((w4.setCell ⟨g, 0, none⟩ (.slice (some ⟨g2, 0, none⟩) n d2)).setCell ⟨g, 1, none⟩ (.int .i64 (-1))).setCell ⟨g, 2, none⟩ (.int .i64 0)).setCell ⟨g, 3, none⟩ (.bool false)).setCell ⟨g, 4, none⟩ (.int .i64 0)).setCell ⟨g2, j, none⟩ (.bool tb)).setCell ⟨(w.heap.size + 1 + 1), 0, none⟩ (.slice (some ⟨g2, 0, none⟩) n d2)).setCell ⟨(w.heap.size + 1 + 1), 1, none⟩ (.int .i64 (-1))).setCell ⟨(w.heap.size + 1 + 1), 2, none⟩ (.int .i64 0)).setCell ⟨(w.heap.size + 1 + 1), 3, none⟩ (.bool false)).setCell ⟨(w.heap.size + 1 + 1), 4, none⟩ (.int .i64 0)).heap[(w.heap.size + 1 + 1)]? = some (.cells #[.slice (some ⟨g2, 0, none⟩) n d2, .int .i64 (-1), .int .i64 0, .bool false, .int .i64 0] 25 (0, 0))) := B_r
          have c_r_0 : (((((((((((w4.setCell ⟨g, 0, none⟩ (.slice (some ⟨g2, 0, none⟩) n d2)).setCell ⟨g, 1, none⟩ (.int .i64 (-1))).setCell ⟨g, 2, none⟩ (.int .i64 0)).setCell ⟨g, 3, none⟩ (.bool false)).setCell ⟨g, 4, none⟩ (.int .i64 0)).setCell ⟨g2, j, none⟩ (.bool tb)).setCell ⟨(w.heap.size + 1 + 1), 0, none⟩ (.slice (some ⟨g2, 0, none⟩) n d2)).setCell ⟨(w.heap.size + 1 + 1), 1, none⟩ (.int .i64 (-1))).setCell ⟨(w.heap.size + 1 + 1), 2, none⟩ (.int .i64 0)).setCell ⟨(w.heap.size + 1 + 1), 3, none⟩ (.bool false)).setCell ⟨(w.heap.size + 1 + 1), 4, none⟩ (.int .i64 0)).cell? ⟨(w.heap.size + 1 + 1), 0, none⟩ = some (.slice (some ⟨g2, 0, none⟩) n d2) := box_cell B_r 0
          have c_r_1 : (((((((((((w4.setCell ⟨g, 0, none⟩ (.slice (some ⟨g2, 0, none⟩) n d2)).setCell ⟨g, 1, none⟩ (.int .i64 (-1))).setCell ⟨g, 2, none⟩ (.int .i64 0)).setCell ⟨g, 3, none⟩ (.bool false)).setCell ⟨g, 4, none⟩ (.int .i64 0)).setCell ⟨g2, j, none⟩ (.bool tb)).setCell ⟨(w.heap.size + 1 + 1), 0, none⟩ (.slice (some ⟨g2, 0, none⟩) n d2)).setCell ⟨(w.heap.size + 1 + 1), 1, none⟩ (.int .i64 (-1))).setCell ⟨(w.heap.size + 1 + 1), 2, none⟩ (.int .i64 0)).setCell ⟨(w.heap.size + 1 + 1), 3, none⟩ (.bool false)).setCell ⟨(w.heap.size + 1 + 1), 4, none⟩ (.int .i64 0)).cell? ⟨(w.heap.size + 1 + 1), 1, none⟩ = some (.int .i64 (-1)) := box_cell B_r 1
          have c_r_2 : (((((((((((w4.setCell ⟨g, 0, none⟩ (.slice (some ⟨g2, 0, none⟩) n d2)).setCell ⟨g, 1, none⟩ (.int .i64 (-1))).setCell ⟨g, 2, none⟩ (.int .i64 0)).setCell ⟨g, 3, none⟩ (.bool false)).setCell ⟨g, 4, none⟩ (.int .i64 0)).setCell ⟨g2, j, none⟩ (.bool tb)).setCell ⟨(w.heap.size + 1 + 1), 0, none⟩ (.slice (some ⟨g2, 0, none⟩) n d2)).setCell ⟨(w.heap.size + 1 + 1), 1, none⟩ (.int .i64 (-1))).setCell ⟨(w.heap.size + 1 + 1), 2, none⟩ (.int .i64 0)).setCell ⟨(w.heap.size + 1 + 1), 3, none⟩ (.bool false)).setCell ⟨(w.heap.size + 1 + 1), 4, none⟩ (.int .i64 0)).cell? ⟨(w.heap.size + 1 + 1), 2, none⟩ = some (.int .i64 0) := box_cell B_r 2
          have c_r_3 : (((((((((((w4.setCell ⟨g, 0, none⟩ (.slice (some ⟨g2, 0, none⟩) n d2)).setCell ⟨g, 1, none⟩ (.int .i64 (-1))).setCell ⟨g, 2, none⟩ (.int .i64 0)).setCell ⟨g, 3, none⟩ (.bool false)).setCell ⟨g, 4, none⟩ (.int .i64 0)).setCell ⟨g2, j, none⟩ (.bool tb)).setCell ⟨(w.heap.size + 1 + 1), 0, none⟩ (.slice (some ⟨g2, 0, none⟩) n d2)).setCell ⟨(w.heap.size + 1 + 1), 1, none⟩ (.int .i64 (-1))).setCell ⟨(w.heap.size + 1 + 1), 2, none⟩ (.int .i64 0)).setCell ⟨(w.heap.size + 1 + 1), 3, none⟩ (.bool false)).setCell ⟨(w.heap.size + 1 + 1), 4, none⟩ (.int .i64 0)).cell? ⟨(w.heap.size + 1 + 1), 3, none⟩ = some (.bool false) := box_cell B_r 3
          have c_r_4 : (((((((((((w4.setCell ⟨g, 0, none⟩ (.slice (some ⟨g2, 0, none⟩) n d2)).setCell ⟨g, 1, none⟩ (.int .i64 (-1))).setCell ⟨g, 2, none⟩ (.int .i64 0)).setCell ⟨g, 3, none⟩ (.bool false)).setCell ⟨g, 4, none⟩ (.int .i64 0)).setCell ⟨g2, j, none⟩ (.bool tb)).setCell ⟨(w.heap.size + 1 + 1), 0, none⟩ (.slice (some ⟨g2, 0, none⟩) n d2)).setCell ⟨(w.heap.size + 1 + 1), 1, none⟩ (.int .i64 (-1))).setCell ⟨(w.heap.size + 1 + 1), 2, none⟩ (.int .i64 0)).setCell ⟨(w.heap.size + 1 + 1), 3, none⟩ (.bool false)).setCell ⟨(w.heap.size + 1 + 1), 4, none⟩ (.int .i64 0)).cell? ⟨(w.heap.size + 1 + 1), 4, none⟩ = some (.int .i64 0) := box_cell B_r 4
          go_wp2_with fail
          exact bodyPost_ret (v := .tuple #[.agg #[.slice (some ⟨g2, 0, none⟩) n d2, .int .i64 (-1), .int .i64 0, .bool false, .int .i64 0], .bool true]) (by simp [results, Tryd.results14, go_sem, c_r_0, c_r_1, c_r_2, c_r_3, c_r_4]) rfl ⟨on.set j tb, _, _, _, _, _, _, _, rfl, (by rw [List.length_set]; exact HN.out), HPV.out, row_mono HO.out (by omega), HG.out⟩
        | false =>
          clear ho
          go_upto_region 13 with fail
          go_cut [97] from 98 (fun s97 wx => s97 = .bool (canB who kind cw) ∧ W3 = wx)
          case first =>
            have c_p_1 : W3.cell? ⟨w.heap.size, 1, none⟩ = some (.int .i64 who) := box_cell B_p 1
            have c_c_0 : W3.cell? ⟨(w.heap.size + 1), 0, none⟩ = some (.int .i64 kind) := box_cell B_c 0
            have c_c_1 : W3.cell? ⟨(w.heap.size + 1), 1, none⟩ = some (.int .i64 cw) := box_cell B_c 1
            have HS : Hid (canB who kind cw = ((kind == 2) && (decide (0 ≤ who) && (cw == who)))) := rfl
            clear hra B_p B_c B_r B_o HG HO HA HNIL HV HNE
            cases e1 : (kind == 2) with
            | false =>
              go_wp2_with fail
              go_meet
              case rel => exact ⟨by rw [HS.out]; first | (rw [e1]; rfl) | (rw [e1, e2]; rfl) | (rw [e1, e2, e3]; rfl), rfl⟩
            | true =>
              cases e2 : decide (0 ≤ who) with
              | false =>
                go_wp2_with fail
                go_meet
                case rel => exact ⟨by rw [HS.out]; first | (rw [e1]; rfl) | (rw [e1, e2]; rfl) | (rw [e1, e2, e3]; rfl), rfl⟩
              | true =>
                cases e3 : (cw == who) with
                | false =>
                  go_wp2_with fail
                  go_meet
                  case rel => exact ⟨by rw [HS.out]; first | (rw [e1]; rfl) | (rw [e1, e2]; rfl) | (rw [e1, e2, e3]; rfl), rfl⟩
                | true =>
                  go_wp2_with fail
                  go_meet
                  case rel => exact ⟨by rw [HS.out]; first | (rw [e1]; rfl) | (rw [e1, e2]; rfl) | (rw [e1, e2, e3]; rfl), rfl⟩
          case rest =>
            obtain ⟨rfl, rfl⟩ := hcut
            have hn0 : 0 < n := by have h := pan_ln HV.out; rw [inB_iff, HN.out] at h; omega
            have HPV : Hid (panB on (-1) 0 false 0 = true) := pan_clr (pan_ln HV.out)
            cases hc3 : canB who kind cw with
            | true =>
              clear hc3
              have c_p_0 : W3.cell? ⟨w.heap.size, 0, none⟩ = some (.slice A n c) := box_cell B_p 0
              have c_p_1 : W3.cell? ⟨w.heap.size, 1, none⟩ = some (.int .i64 who) := box_cell B_p 1
              have c_p_2 : W3.cell? ⟨w.heap.size, 2, none⟩ = some (.int .i64 i) := box_cell B_p 2
              have c_p_3 : W3.cell? ⟨w.heap.size, 3, none⟩ = some (.bool tb) := box_cell B_p 3
              have c_p_4 : W3.cell? ⟨w.heap.size, 4, none⟩ = some (.int .i64 left) := box_cell B_p 4
              have M_o : g < W3.heap.size := blk_lt B_o.out
              go_wp2_with fail
              refine (clearP A n c on who i tb left _ HN.out hm HNIL.out hra).mono ?_
              rintro e w4 ⟨B2, d2, rfl, hr2, hbn⟩
              replace HG := Lib.hid (seqB HG.out hbn)
              replace HO := Lib.hid hr2
              obtain ⟨g2, rfl, hg2⟩ := row_addr HO.out hn0
              clear hr2 hra HNE
              replace B_p := be_box B_p hbn
              replace B_c := be_box B_c hbn
              replace B_r := be_box B_r hbn
              replace B_o := be_box B_o hbn
              clear hbn
              clear c_p_0 c_p_1 c_p_2 c_p_3 c_p_4
              replace HO := Lib.hid (row_setP (g := g) (j := 0) (u := .slice (some ⟨g2, 0, none⟩) n d2) HO.out M_o)
              have k_o_1 : w4.cell? ⟨g, 0, none⟩ = some (.slice B n d) := box_cell B_o 0
              have y_o_1 : w4.frozen? ⟨g, 0, none⟩ = false := box_free B_o 0
              replace B_p := st_box (g' := g) (j := 0) B_p (.slice (some ⟨g2, 0, none⟩) n d2) (by omega)
              replace B_c := st_box (g' := g) (j := 0) B_c (.slice (some ⟨g2, 0, none⟩) n d2) (by omega)
              replace B_r := st_box (g' := g) (j := 0) B_r (.slice (some ⟨g2, 0, none⟩) n d2) (by omega)
              replace B_o := st_same B_o 0 (.slice (some ⟨g2, 0, none⟩) n d2)
              replace HG := Lib.hid (be_set (g := g) (j := 0) (u := .slice (some ⟨g2, 0, none⟩) n d2) HG.out  Z_o)
              replace B_o : Hid ((w4.setCell ⟨g, 0, none⟩ (.slice (some ⟨g2, 0, none⟩) n d2)).heap[g]? = some (.cells #[.slice (some ⟨g2, 0, none⟩) n d2, .int .i64 who, .int .i64 i, .bool tb, .int .i64 left] 25 (0, 0))) := B_o
              replace HO := Lib.hid (row_setP (g := g) (j := 1) (u := .int .i64 (-1)) HO.out M_o)
              have k_o_2 : (w4.setCell ⟨g, 0, none⟩ (.slice (some ⟨g2, 0, none⟩) n d2)).cell? ⟨g, 1, none⟩ = some (.int .i64 who) := box_cell B_o 1
              have y_o_2 : (w4.setCell ⟨g, 0, none⟩ (.slice (some ⟨g2, 0, none⟩) n d2)).frozen? ⟨g, 1, none⟩ = false := box_free B_o 1
              replace B_p := st_box (g' := g) (j := 1) B_p (.int .i64 (-1)) (by omega)
              replace B_c := st_box (g' := g) (j := 1) B_c (.int .i64 (-1)) (by omega)
              replace B_r := st_box (g' := g) (j := 1) B_r (.int .i64 (-1)) (by omega)
              replace B_o := st_same B_o 1 (.int .i64 (-1))
              replace HG := Lib.hid (be_set (g := g) (j := 1) (u := .int .i64 (-1)) HG.out  Z_o)
              replace B_o : Hid (((w4.setCell ⟨g, 0, none⟩ (.slice (some ⟨g2, 0, none⟩) n d2)).setCell ⟨g, 1, none⟩ (.int .i64 (-1))).heap[g]? = some (.cells #[.slice (some ⟨g2, 0, none⟩) n d2, .int .i64 (-1), .int .i64 i, .bool tb, .int .i64 left] 25 (0, 0))) := B_o
              replace HO := Lib.hid (row_setP (g := g) (j := 2) (u := .int .i64 0) HO.out M_o)
              have k_o_3 : ((w4.setCell ⟨g, 0, none⟩ (.slice (some ⟨g2, 0, none⟩) n d2)).setCell ⟨g, 1, none⟩ (.int .i64 (-1))).cell? ⟨g, 2, none⟩ = some (.int .i64 i) := box_cell B_o 2
              have y_o_3 : ((w4.setCell ⟨g, 0, none⟩ (.slice (some ⟨g2, 0, none⟩) n d2)).setCell ⟨g, 1, none⟩ (.int .i64 (-1))).frozen? ⟨g, 2, none⟩ = false := box_free B_o 2
              replace B_p := st_box (g' := g) (j := 2) B_p (.int .i64 0) (by omega)
              replace B_c := st_box (g' := g) (j := 2) B_c (.int .i64 0) (by omega)
              replace B_r := st_box (g' := g) (j := 2) B_r (.int .i64 0) (by omega)
              replace B_o := st_same B_o 2 (.int .i64 0)
              replace HG := Lib.hid (be_set (g := g) (j := 2) (u := .int .i64 0) HG.out  Z_o)
              replace B_o : Hid ((((w4.setCell ⟨g, 0, none⟩ (.slice (some ⟨g2, 0, none⟩) n d2)).setCell ⟨g, 1, none⟩ (.int .i64 (-1))).setCell ⟨g, 2, none⟩ (.int .i64 0)).heap[g]? = some (.cells #[.slice (some ⟨g2, 0, none⟩) n d2, .int .i64 (-1), .int .i64 0, .bool tb, .int .i64 left] 25 (0, 0))) := B_o
              replace HO := Lib.hid (row_setP (g := g) (j := 3) (u := .bool false) HO.out M_o)
              have k_o_4 : (((w4.setCell ⟨g, 0, none⟩ (.slice (some ⟨g2, 0, none⟩) n d2)).setCell ⟨g, 1, none⟩ (.int .i64 (-1))).setCell ⟨g, 2, none⟩ (.int .i64 0)).cell? ⟨g, 3, none⟩ = some (.bool tb) := box_cell B_o 3
              have y_o_4 : (((w4.setCell ⟨g, 0, none⟩ (.slice (some ⟨g2, 0, none⟩) n d2)).setCell ⟨g, 1, none⟩ (.int .i64 (-1))).setCell ⟨g, 2, none⟩ (.int .i64 0)).frozen? ⟨g, 3, none⟩ = false := box_free B_o 3
              replace B_p := st_box (g' := g) (j := 3) B_p (.bool false) (by omega)
              replace B_c := st_box (g' := g) (j := 3) B_c (.bool false) (by omega)
              replace B_r := st_box (g' := g) (j := 3) B_r (.bool false) (by omega)
              replace B_o := st_same B_o 3 (.bool false)
              replace HG := Lib.hid (be_set (g := g) (j := 3) (u := .bool false) HG.out  Z_o)
              replace B_o : Hid (((((w4.setCell ⟨g, 0, none⟩ (.slice (some ⟨g2, 0, none⟩) n d2)).setCell ⟨g, 1, none⟩ (.int .i64 (-1))).setCell ⟨g, 2, none⟩ (.int .i64 0)).setCell ⟨g, 3, none⟩ (.bool false)).heap[g]? = some (.cells #[.slice (some ⟨g2, 0, none⟩) n d2, .int .i64 (-1), .int .i64 0, .bool false, .int .i64 left] 25 (0, 0))) := B_o
              replace HO := Lib.hid (row_setP (g := g) (j := 4) (u := .int .i64 0) HO.out M_o)
              have k_o_5 : ((((w4.setCell ⟨g, 0, none⟩ (.slice (some ⟨g2, 0, none⟩) n d2)).setCell ⟨g, 1, none⟩ (.int .i64 (-1))).setCell ⟨g, 2, none⟩ (.int .i64 0)).setCell ⟨g, 3, none⟩ (.bool false)).cell? ⟨g, 4, none⟩ = some (.int .i64 left) := box_cell B_o 4
              have y_o_5 : ((((w4.setCell ⟨g, 0, none⟩ (.slice (some ⟨g2, 0, none⟩) n d2)).setCell ⟨g, 1, none⟩ (.int .i64 (-1))).setCell ⟨g, 2, none⟩ (.int .i64 0)).setCell ⟨g, 3, none⟩ (.bool false)).frozen? ⟨g, 4, none⟩ = false := box_free B_o 4
              replace B_p := st_box (g' := g) (j := 4) B_p (.int .i64 0) (by omega)
              replace B_c := st_box (g' := g) (j := 4) B_c (.int .i64 0) (by omega)
              replace B_r := st_box (g' := g) (j := 4) B_r (.int .i64 0) (by omega)
              replace B_o := st_same B_o 4 (.int .i64 0)
              replace HG := Lib.hid (be_set (g := g) (j := 4) (u := .int .i64 0) HG.out  Z_o)
              replace B_o : Hid ((((((w4.setCell ⟨g, 0, none⟩ (.slice (some ⟨g2, 0, none⟩) n d2)).setCell ⟨g, 1, none⟩ (.int .i64 (-1))).setCell ⟨g, 2, none⟩ (.int .i64 0)).setCell ⟨g, 3, none⟩ (.bool false)).setCell ⟨g, 4, none⟩ (.int .i64 0)).heap[g]? = some (.cells #[.slice (some ⟨g2, 0, none⟩) n d2, .int .i64 (-1), .int .i64 0, .bool false, .int .i64 0] 25 (0, 0))) := B_o
              have c_o_0 : (((((w4.setCell ⟨g, 0, none⟩ (.slice (some ⟨g2, 0, none⟩) n d2)).setCell ⟨g, 1, none⟩ (.int .i64 (-1))).setCell ⟨g, 2, none⟩ (.int .i64 0)).setCell ⟨g, 3, none⟩ (.bool false)).setCell ⟨g, 4, none⟩ (.int .i64 0)).cell? ⟨g, 0, none⟩ = some (.slice (some ⟨g2, 0, none⟩) n d2) := box_cell B_o 0
              have c_o_1 : (((((w4.setCell ⟨g, 0, none⟩ (.slice (some ⟨g2, 0, none⟩) n d2)).setCell ⟨g, 1, none⟩ (.int .i64 (-1))).setCell ⟨g, 2, none⟩ (.int .i64 0)).setCell ⟨g, 3, none⟩ (.bool false)).setCell ⟨g, 4, none⟩ (.int .i64 0)).cell? ⟨g, 1, none⟩ = some (.int .i64 (-1)) := box_cell B_o 1
              have c_o_2 : (((((w4.setCell ⟨g, 0, none⟩ (.slice (some ⟨g2, 0, none⟩) n d2)).setCell ⟨g, 1, none⟩ (.int .i64 (-1))).setCell ⟨g, 2, none⟩ (.int .i64 0)).setCell ⟨g, 3, none⟩ (.bool false)).setCell ⟨g, 4, none⟩ (.int .i64 0)).cell? ⟨g, 2, none⟩ = some (.int .i64 0) := box_cell B_o 2
              have c_o_3 : (((((w4.setCell ⟨g, 0, none⟩ (.slice (some ⟨g2, 0, none⟩) n d2)).setCell ⟨g, 1, none⟩ (.int .i64 (-1))).setCell ⟨g, 2, none⟩ (.int .i64 0)).setCell ⟨g, 3, none⟩ (.bool false)).setCell ⟨g, 4, none⟩ (.int .i64 0)).cell? ⟨g, 3, none⟩ = some (.bool false) := box_cell B_o 3
              have c_o_4 : (((((w4.setCell ⟨g, 0, none⟩ (.slice (some ⟨g2, 0, none⟩) n d2)).setCell ⟨g, 1, none⟩ (.int .i64 (-1))).setCell ⟨g, 2, none⟩ (.int .i64 0)).setCell ⟨g, 3, none⟩ (.bool false)).setCell ⟨g, 4, none⟩ (.int .i64 0)).cell? ⟨g, 4, none⟩ = some (.int .i64 0) := box_cell B_o 4
              replace HO := Lib.hid (row_setP (g := (w.heap.size + 1 + 1)) (j := 0) (u := .slice (some ⟨g2, 0, none⟩) n d2) HO.out (by omega))
              have k_r_6 : (((((w4.setCell ⟨g, 0, none⟩ (.slice (some ⟨g2, 0, none⟩) n d2)).setCell ⟨g, 1, none⟩ (.int .i64 (-1))).setCell ⟨g, 2, none⟩ (.int .i64 0)).setCell ⟨g, 3, none⟩ (.bool false)).setCell ⟨g, 4, none⟩ (.int .i64 0)).cell? ⟨(w.heap.size + 1 + 1), 0, none⟩ = some (.slice none 0 0) := box_cell B_r 0
              have y_r_6 : (((((w4.setCell ⟨g, 0, none⟩ (.slice (some ⟨g2, 0, none⟩) n d2)).setCell ⟨g, 1, none⟩ (.int .i64 (-1))).setCell ⟨g, 2, none⟩ (.int .i64 0)).setCell ⟨g, 3, none⟩ (.bool false)).setCell ⟨g, 4, none⟩ (.int .i64 0)).frozen? ⟨(w.heap.size + 1 + 1), 0, none⟩ = false := box_free B_r 0
              replace B_p := st_box (g' := (w.heap.size + 1 + 1)) (j := 0) B_p (.slice (some ⟨g2, 0, none⟩) n d2) (by omega)
              replace B_c := st_box (g' := (w.heap.size + 1 + 1)) (j := 0) B_c (.slice (some ⟨g2, 0, none⟩) n d2) (by omega)
              replace B_o := st_box (g' := (w.heap.size + 1 + 1)) (j := 0) B_o (.slice (some ⟨g2, 0, none⟩) n d2) (by omega)
              replace B_r := st_same B_r 0 (.slice (some ⟨g2, 0, none⟩) n d2)
              replace HG := Lib.hid (be_set (g := (w.heap.size + 1 + 1)) (j := 0) (u := .slice (some ⟨g2, 0, none⟩) n d2) HG.out  Z_r)
              replace B_r : Hid (((((((w4.setCell ⟨g, 0, none⟩ (.slice (some ⟨g2, 0, none⟩) n d2)).setCell ⟨g, 1, none⟩ (.int .i64 (-1))).setCell ⟨g, 2, none⟩ (.int .i64 0)).setCell ⟨g, 3, none⟩ (.bool false)).setCell ⟨g, 4, none⟩ (.int .i64 0)).setCell ⟨(w.heap.size + 1 + 1), 0, none⟩ (.slice (some ⟨g2, 0, none⟩) n d2)).heap[(w.heap.size + 1 + 1)]? = some (.cells #[.slice (some ⟨g2, 0, none⟩) n d2, .int .i64 0, .int .i64 0, .bool false, .int .i64 0] 25 (0, 0))) := B_r
              replace HO := Lib.hid (row_setP (g := (w.heap.size + 1 + 1)) (j := 1) (u := .int .i64 (-1)) HO.out (by omega))
              have k_r_7 : ((((((w4.setCell ⟨g, 0, none⟩ (.slice (some ⟨g2, 0, none⟩) n d2)).setCell ⟨g, 1, none⟩ (.int .i64 (-1))).setCell ⟨g, 2, none⟩ (.int .i64 0)).setCell ⟨g, 3, none⟩ (.bool false)).setCell ⟨g, 4, none⟩ (.int .i64 0)).setCell ⟨(w.heap.size + 1 + 1), 0, none⟩ (.slice (some ⟨g2, 0, none⟩) n d2)).cell? ⟨(w.heap.size + 1 + 1), 1, none⟩ = some (.int .i64 0) := box_cell B_r 1
              have y_r_7 : ((((((w4.setCell ⟨g, 0, none⟩ (.slice (some ⟨g2, 0, none⟩) n d2)).setCell ⟨g, 1, none⟩ (.int .i64 (-1))).setCell ⟨g, 2, none⟩ (.int .i64 0)).setCell ⟨g, 3, none⟩ (.bool false)).setCell ⟨g, 4, none⟩ (.int .i64 0)).setCell ⟨(w.heap.size + 1 + 1), 0, none⟩ (.slice (some ⟨g2, 0, none⟩) n d2)).frozen? ⟨(w.heap.size + 1 + 1), 1, none⟩ = false := box_free B_r 1
              replace B_p := st_box (g' := (w.heap.size + 1 + 1)) (j := 1) B_p (.int .i64 (-1)) (by omega)
              replace B_c := st_box (g' := (w.heap.size + 1 + 1)) (j := 1) B_c (.int .i64 (-1)) (by omega)
              replace B_o := st_box (g' := (w.heap.size + 1 + 1)) (j := 1) B_o (.int .i64 (-1)) (by omega)
              replace B_r := st_same B_r 1 (.int .i64 (-1))
              replace HG := Lib.hid (be_set (g := (w.heap.size + 1 + 1)) (j := 1) (u := .int .i64 (-1)) HG.out  Z_r)
              replace B_r : Hid ((((((((w4.setCell ⟨g, 0, none⟩ (.slice (some ⟨g2, 0, none⟩) n d2)).setCell ⟨g, 1, none⟩ (.int .i64 (-1))).setCell ⟨g, 2, none⟩ (.int .i64 0)).setCell ⟨g, 3, none⟩ (.bool false)).setCell ⟨g, 4, none⟩ (.int .i64 0)).setCell ⟨(w.heap.size + 1 + 1), 0, none⟩ (.slice (some ⟨g2, 0, none⟩) n d2)).setCell ⟨(w.heap.size + 1 + 1), 1, none⟩ (.int .i64 (-1))).heap[(w.heap.size + 1 + 1)]? = some (.cells #[.slice (some ⟨g2, 0, none⟩) n d2, .int .i64 (-1), .int .i64 0, .bool false, .int .i64 0] 25 (0, 0))) := B_r
              replace HO := Lib.hid (row_setP (g := (w.heap.size + 1 + 1)) (j := 2) (u := .int .i64 0) HO.out (by omega))
              have k_r_8 : (((((((w4.setCell ⟨g, 0, none⟩ (.slice (some ⟨g2, 0, none⟩) n d2)).setCell ⟨g, 1, none⟩ (.int .i64 (-1))).setCell ⟨g, 2, none⟩ (.int .i64 0)).setCell ⟨g, 3, none⟩ (.bool false)).setCell ⟨g, 4, none⟩ (.int .i64 0)).setCell ⟨(w.heap.size + 1 + 1), 0, none⟩ (.slice (some ⟨g2, 0, none⟩) n d2)).setCell ⟨(w.heap.size + 1 + 1), 1, none⟩ (.int .i64 (-1))).cell? ⟨(w.heap.size + 1 + 1), 2, none⟩ = some (.int .i64 0) := box_cell B_r 2
              have y_r_8 : (((((((w4.setCell ⟨g, 0, none⟩ (.slice (some ⟨g2, 0, none⟩) n d2)).setCell ⟨g, 1, none⟩ (.int .i64 (-1))).setCell ⟨g, 2, none⟩ (.int .i64 0)).setCell ⟨g, 3, none⟩ (.bool false)).setCell ⟨g, 4, none⟩ (.int .i64 0)).setCell ⟨(w.heap.size + 1 + 1), 0, none⟩ (.slice (some ⟨g2, 0, none⟩) n d2)).setCell ⟨(w.heap.size + 1 + 1), 1, none⟩ (.int .i64 (-1))).frozen? ⟨(w.heap.size + 1 + 1), 2, none⟩ = false := box_free B_r 2
              replace B_p := st_box (g' := (w.heap.size + 1 + 1)) (j := 2) B_p (.int .i64 0) (by omega)
              replace B_c := st_box (g' := (w.heap.size + 1 + 1)) (j := 2) B_c (.int .i64 0) (by omega)
              replace B_o := st_box (g' := (w.heap.size + 1 + 1)) (j := 2) B_o (.int .i64 0) (by omega)
              replace B_r := st_same B_r 2 (.int .i64 0)
              replace HG := Lib.hid (be_set (g := (w.heap.size + 1 + 1)) (j := 2) (u := .int .i64 0) HG.out  Z_r)
              replace B_r : Hid (((((((((w4.setCell ⟨g, 0, none⟩ (.slice (some ⟨g2, 0, none⟩) n d2)).setCell ⟨g, 1, none⟩ (.int .i64 (-1))).setCell ⟨g, 2, none⟩ (.int .i64 0)).setCell ⟨g, 3, none⟩ (.bool false)).setCell ⟨g, 4, none⟩ (.int .i64 0)).setCell ⟨(w.heap.size + 1 + 1), 0, none⟩ (.slice (some ⟨g2, 0, none⟩) n d2)).setCell ⟨(w.heap.size + 1 + 1), 1, none⟩ (.int .i64 (-1))).setCell ⟨(w.heap.size + 1 + 1), 2, none⟩ (.int .i64 0)).heap[(w.heap.size + 1 + 1)]? = some (.cells #[.slice (some ⟨g2, 0, none⟩) n d2, .int .i64 (-1), .int .i64 0, .bool false, .int .i64 0] 25 (0, 0))) := B_r
              replace HO := Lib.hid (row_setP (g := (w.heap.size + 1 + 1)) (j := 3) (u := .bool false) HO.out (by omega))
              have k_r_9 : ((((((((w4.setCell ⟨g, 0, none⟩ (.slice (some ⟨g2, 0, none⟩) n d2)).setCell ⟨g, 1, none⟩ (.int .i64 (-1))).setCell ⟨g, 2, none⟩ (.int .i64 0)).setCell ⟨g, 3, none⟩ (.bool false)).setCell ⟨g, 4, none⟩ (.int .i64 0)).setCell ⟨(w.heap.size + 1 + 1), 0, none⟩ (.slice (some ⟨g2, 0, none⟩) n d2)).setCell ⟨(w.heap.size + 1 + 1), 1, none⟩ (.int .i64 (-1))).setCell ⟨(w.heap.size + 1 + 1), 2, none⟩ (.int .i64 0)).cell? ⟨(w.heap.size + 1 + 1), 3, none⟩ = some (.bool false) := box_cell B_r 3
              have y_r_9 : ((((((((w4.setCell ⟨g, 0, none⟩ (.slice (some ⟨g2, 0, none⟩) n d2)).setCell ⟨g, 1, none⟩ (.int .i64 (-1))).setCell ⟨g, 2, none⟩ (.int .i64 0)).setCell ⟨g, 3, none⟩ (.bool false)).setCell ⟨g, 4, none⟩ (.int .i64 0)).setCell ⟨(w.heap.size + 1 + 1), 0, none⟩ (.slice (some ⟨g2, 0, none⟩) n d2)).setCell ⟨(w.heap.size + 1 + 1), 1, none⟩ (.int .i64 (-1))).setCell ⟨(w.heap.size + 1 + 1), 2, none⟩ (.int .i64 0)).frozen? ⟨(w.heap.size + 1 + 1), 3, none⟩ = false := box_free B_r 3
              replace B_p := st_box (g' := (w.heap.size + 1 + 1)) (j := 3) B_p (.bool false) (by omega)
              replace B_c := st_box (g' := (w.heap.size + 1 + 1)) (j := 3) B_c (.bool false) (by omega)
              replace B_o := st_box (g' := (w.heap.size + 1 + 1)) (j := 3) B_o (.bool false) (by omega)
              replace B_r := st_same B_r 3 (.bool false)
              replace HG := Lib.hid (be_set (g := (w.heap.size + 1 + 1)) (j := 3) (u := .bool false) HG.out  Z_r)
              replace B_r : Hid ((((((((((w4.setCell ⟨g, 0, none⟩ (.slice (some ⟨g2, 0, none⟩) n d2)).setCell ⟨g, 1, none⟩ (.int .i64 (-1))).setCell ⟨g, 2, none⟩ (.int .i64 0)).setCell ⟨g, 3, none⟩ (.bool false)).setCell ⟨g, 4, none⟩ (.int .i64 0)).setCell ⟨(w.heap.size + 1 + 1), 0, none⟩ (.slice (some ⟨g2, 0, none⟩) n d2)).setCell ⟨(w.heap.size + 1 + 1), 1, none⟩ (.int .i64 (-1))).setCell ⟨(w.heap.size + 1 + 1), 2, none⟩ (.int .i64 0)).setCell ⟨(w.heap.size + 1 + 1), 3, none⟩ (.bool false)).heap[(w.heap.size + 1 + 1)]? = some (.cells #[.slice (some ⟨g2, 0, none⟩) n d2, .int .i64 (-1), .int .i64 0, .bool false, .int .i64 0] 25 (0, 0))) := B_r
              replace HO := Lib.hid (row_setP (g := (w.heap.size + 1 + 1)) (j := 4) (u := .int .i64 0) HO.out (by omega))
              have k_r_10 : (((((((((w4.setCell ⟨g, 0, none⟩ (.slice (some ⟨g2, 0, none⟩) n d2)).setCell ⟨g, 1, none⟩ (.int .i64 (-1))).setCell ⟨g, 2, none⟩ (.int .i64 0)).setCell ⟨g, 3, none⟩ (.bool false)).setCell ⟨g, 4, none⟩ (.int .i64 0)).setCell ⟨(w.heap.size + 1 + 1), 0, none⟩ (.slice (some ⟨g2, 0, none⟩) n d2)).setCell ⟨(w.heap.size + 1 + 1), 1, none⟩ (.int .i64 (-1))).setCell ⟨(w.heap.size + 1 + 1), 2, none⟩ (.int .i64 0)).setCell ⟨(w.heap.size + 1 + 1), 3, none⟩ (.bool false)).cell? ⟨(w.heap.size + 1 + 1), 4, none⟩ = some (.int .i64 0) := box_cell B_r 4
              have y_r_10 : (((((((((w4.setCell ⟨g, 0, none⟩ (.slice (some ⟨g2, 0, none⟩) n d2)).setCell ⟨g, 1, none⟩ (.int .i64 (-1))).setCell ⟨g, 2, none⟩ (.int .i64 0)).setCell ⟨g, 3, none⟩ (.bool false)).setCell ⟨g, 4, none⟩ (.int .i64 0)).setCell ⟨(w.heap.size + 1 + 1), 0, none⟩ (.slice (some ⟨g2, 0, none⟩) n d2)).setCell ⟨(w.heap.size + 1 + 1), 1, none⟩ (.int .i64 (-1))).setCell ⟨(w.heap.size + 1 + 1), 2, none⟩ (.int .i64 0)).setCell ⟨(w.heap.size + 1 + 1), 3, none⟩ (.bool false)).frozen? ⟨(w.heap.size + 1 + 1), 4, none⟩ = false := box_free B_r 4
              replace B_p := st_box (g' := (w.heap.size + 1 + 1)) (j := 4) B_p (.int .i64 0) (by omega)
              replace B_c := st_box (g' := (w.heap.size + 1 + 1)) (j := 4) B_c (.int .i64 0) (by omega)
              replace B_o := st_box (g' := (w.heap.size + 1 + 1)) (j := 4) B_o (.int .i64 0) (by omega)
              replace B_r := st_same B_r 4 (.int .i64 0)
              replace HG := Lib.hid (be_set (g := (w.heap.size + 1 + 1)) (j := 4) (u := .int .i64 0) HG.out  Z_r)
              replace B_r : Hid (((((((((((w4.setCell ⟨g, 0, none⟩ (.slice (some ⟨g2, 0, none⟩) n d2)).setCell ⟨g, 1, none⟩ (.int .i64 (-1))).setCell ⟨g, 2, none⟩ (.int .i64 0)).setCell ⟨g, 3, none⟩ (.bool false)).setCell ⟨g, 4, none⟩ (.int .i64 0)).setCell ⟨(w.heap.size + 1 + 1), 0, none⟩ (.slice (some ⟨g2, 0, none⟩) n d2)).setCell ⟨(w.heap.size + 1 + 1), 1, none⟩ (.int .i64 (-1))).setCell ⟨(w.heap.size + 1 + 1), 2, none⟩ (.int .i64 0)).setCell ⟨(w.heap.size + 1 + 1), 3, none⟩ (.bool false)).setCell ⟨(w.heap.size + 1 + 1), 4, none⟩ (.int .i64 0)).heap[(w.heap.size + 1 + 1)]? = some (.cells #[.slice (some ⟨g2, 0, none⟩) n d2, .int .i64 (-1), .int .i64 0, .bool false, .int .i64 0] 25 (0, 0))) := B_r
              have c_r_0 : ((((((((((w4.setCell ⟨g, 0, none⟩ (.slice (some ⟨g2, 0, none⟩) n d2)).setCell ⟨g, 1, none⟩ (.int .i64 (-1))).setCell ⟨g, 2, none⟩ (.int .i64 0)).setCell ⟨g, 3, none⟩ (.bool false)).setCell ⟨g, 4, none⟩ (.int .i64 0)).setCell ⟨(w.heap.size + 1 + 1), 0, none⟩ (.slice (some ⟨g2, 0, none⟩) n d2)).setCell ⟨(w.heap.size + 1 + 1), 1, none⟩ (.int .i64 (-1))).setCell ⟨(w.heap.size + 1 + 1), 2, none⟩ (.int .i64 0)).setCell ⟨(w.heap.size + 1 + 1), 3, none⟩ (.bool false)).setCell ⟨(w.heap.size + 1 + 1), 4, none⟩ (.int .i64 0)).cell? ⟨(w.heap.size + 1 + 1), 0, none⟩ = some (.slice (some ⟨g2, 0, none⟩) n d2) := box_cell B_r 0
              have c_r_1 : ((((((((((w4.setCell ⟨g, 0, none⟩ (.slice (some ⟨g2, 0, none⟩) n d2)).setCell ⟨g, 1, none⟩ (.int .i64 (-1))).setCell ⟨g, 2, none⟩ (.int .i64 0)).setCell ⟨g, 3, none⟩ (.bool false)).setCell ⟨g, 4, none⟩ (.int .i64 0)).setCell ⟨(w.heap.size + 1 + 1), 0, none⟩ (.slice (some ⟨g2, 0, none⟩) n d2)).setCell ⟨(w.heap.size + 1 + 1), 1, none⟩ (.int .i64 (-1))).setCell ⟨(w.heap.size + 1 + 1), 2, none⟩ (.int .i64 0)).setCell ⟨(w.heap.size + 1 + 1), 3, none⟩ (.bool false)).setCell ⟨(w.heap.size + 1 + 1), 4, none⟩ (.int .i64 0)).cell? ⟨(w.heap.size + 1 + 1), 1, none⟩ = some (.int .i64 (-1)) := box_cell B_r 1
              have c_r_2 : ((((((((((w4.setCell ⟨g, 0, none⟩ (.slice (some ⟨g2, 0, none⟩) n d2)).setCell ⟨g, 1, none⟩ (.int .i64 (-1))).setCell ⟨g, 2, none⟩ (.int .i64 0)).setCell ⟨g, 3, none⟩ (.bool false)).setCell ⟨g, 4, none⟩ (.int .i64 0)).setCell ⟨(w.heap.size + 1 + 1), 0, none⟩ (.slice (some ⟨g2, 0, none⟩) n d2)).setCell ⟨(w.heap.size + 1 + 1), 1, none⟩ (.int .i64 (-1))).setCell ⟨(w.heap.size + 1 + 1), 2, none⟩ (.int .i64 0)).setCell ⟨(w.heap.size + 1 + 1), 3, none⟩ (.bool false)).setCell ⟨(w.heap.size + 1 + 1), 4, none⟩ (.int .i64 0)).cell? ⟨(w.heap.size + 1 + 1), 2, none⟩ = some (.int .i64 0) := box_cell B_r 2
              have c_r_3 : ((((((((((w4.setCell ⟨g, 0, none⟩ (.slice (some ⟨g2, 0, none⟩) n d2)).setCell ⟨g, 1, none⟩ (.int .i64 (-1))).setCell ⟨g, 2, none⟩ (.int .i64 0)).setCell ⟨g, 3, none⟩ (.bool false)).setCell ⟨g, 4, none⟩ (.int .i64 0)).setCell ⟨(w.heap.size + 1 + 1), 0, none⟩ (.slice (some ⟨g2, 0, none⟩) n d2)).setCell ⟨(w.heap.size + 1 + 1), 1, none⟩ (.int .i64 (-1))).setCell ⟨(w.heap.size + 1 + 1), 2, none⟩ (.int .i64 0)).setCell ⟨(w.heap.size + 1 + 1), 3, none⟩ (.bool false)).setCell ⟨(w.heap.size + 1 + 1), 4, none⟩ (.int .i64 0)).cell? ⟨(w.heap.size + 1 + 1), 3, none⟩ = some (.bool false) := box_cell B_r 3
              have c_r_4 : ((((((((((w4.setCell ⟨g, 0, none⟩ (.slice (some ⟨g2, 0, none⟩) n d2)).setCell ⟨g, 1, none⟩ (.int .i64 (-1))).setCell ⟨g, 2, none⟩ (.int .i64 0)).setCell ⟨g, 3, none⟩ (.bool false)).setCell ⟨g, 4, none⟩ (.int .i64 0)).setCell ⟨(w.heap.size + 1 + 1), 0, none⟩ (.slice (some ⟨g2, 0, none⟩) n d2)).setCell ⟨(w.heap.size + 1 + 1), 1, none⟩ (.int .i64 (-1))).setCell ⟨(w.heap.size + 1 + 1), 2, none⟩ (.int .i64 0)).setCell ⟨(w.heap.size + 1 + 1), 3, none⟩ (.bool false)).setCell ⟨(w.heap.size + 1 + 1), 4, none⟩ (.int .i64 0)).cell? ⟨(w.heap.size + 1 + 1), 4, none⟩ = some (.int .i64 0) := box_cell B_r 4
              go_wp2_with fail
              exact bodyPost_ret (v := .tuple #[.agg #[.slice (some ⟨g2, 0, none⟩) n d2, .int .i64 (-1), .int .i64 0, .bool false, .int .i64 0], .bool true]) (by simp [results, Tryd.results14, go_sem, c_r_0, c_r_1, c_r_2, c_r_3, c_r_4]) rfl ⟨on, _, _, _, _, _, _, _, rfl, HN.out, HPV.out, row_mono HO.out (by omega), HG.out⟩
            | false =>
              clear hc3
              cases e1 : (kind == 3) with
              | false =>
                have c_p_4 : W3.cell? ⟨w.heap.size, 4, none⟩ = some (.int .i64 left) := box_cell B_p 4
                have c_c_0 : W3.cell? ⟨(w.heap.size + 1), 0, none⟩ = some (.int .i64 kind) := box_cell B_c 0
                have c_o_0 : W3.cell? ⟨g, 0, none⟩ = some (.slice B n d) := box_cell B_o 0
                have c_o_1 : W3.cell? ⟨g, 1, none⟩ = some (.int .i64 who) := box_cell B_o 1
                have c_o_2 : W3.cell? ⟨g, 2, none⟩ = some (.int .i64 i) := box_cell B_o 2
                have c_o_3 : W3.cell? ⟨g, 3, none⟩ = some (.bool tb) := box_cell B_o 3
                have c_o_4 : W3.cell? ⟨g, 4, none⟩ = some (.int .i64 left) := box_cell B_o 4
                replace HO := Lib.hid (row_setN (g := (w.heap.size + 1 + 1)) (j := 0) (u := .slice B n d) HO.out (fun k e => (HNE.out k e).2))
                have k_r_1 : W3.cell? ⟨(w.heap.size + 1 + 1), 0, none⟩ = some (.slice none 0 0) := box_cell B_r 0
                have y_r_1 : W3.frozen? ⟨(w.heap.size + 1 + 1), 0, none⟩ = false := box_free B_r 0
                replace B_p := st_box (g' := (w.heap.size + 1 + 1)) (j := 0) B_p (.slice B n d) (by omega)
                replace B_c := st_box (g' := (w.heap.size + 1 + 1)) (j := 0) B_c (.slice B n d) (by omega)
                replace B_o := st_box (g' := (w.heap.size + 1 + 1)) (j := 0) B_o (.slice B n d) (by omega)
                replace B_r := st_same B_r 0 (.slice B n d)
                replace HG := Lib.hid (be_set (g := (w.heap.size + 1 + 1)) (j := 0) (u := .slice B n d) HG.out  Z_r)
                replace B_r : Hid ((W3.setCell ⟨(w.heap.size + 1 + 1), 0, none⟩ (.slice B n d)).heap[(w.heap.size + 1 + 1)]? = some (.cells #[.slice B n d, .int .i64 0, .int .i64 0, .bool false, .int .i64 0] 25 (0, 0))) := B_r
                replace HO := Lib.hid (row_setN (g := (w.heap.size + 1 + 1)) (j := 1) (u := .int .i64 who) HO.out (fun k e => (HNE.out k e).2))
                have k_r_2 : (W3.setCell ⟨(w.heap.size + 1 + 1), 0, none⟩ (.slice B n d)).cell? ⟨(w.heap.size + 1 + 1), 1, none⟩ = some (.int .i64 0) := box_cell B_r 1
                have y_r_2 : (W3.setCell ⟨(w.heap.size + 1 + 1), 0, none⟩ (.slice B n d)).frozen? ⟨(w.heap.size + 1 + 1), 1, none⟩ = false := box_free B_r 1
                replace B_p := st_box (g' := (w.heap.size + 1 + 1)) (j := 1) B_p (.int .i64 who) (by omega)
                replace B_c := st_box (g' := (w.heap.size + 1 + 1)) (j := 1) B_c (.int .i64 who) (by omega)
                replace B_o := st_box (g' := (w.heap.size + 1 + 1)) (j := 1) B_o (.int .i64 who) (by omega)
                replace B_r := st_same B_r 1 (.int .i64 who)
                replace HG := Lib.hid (be_set (g := (w.heap.size + 1 + 1)) (j := 1) (u := .int .i64 who) HG.out  Z_r)
                replace B_r : Hid (((W3.setCell ⟨(w.heap.size + 1 + 1), 0, none⟩ (.slice B n d)).setCell ⟨(w.heap.size + 1 + 1), 1, none⟩ (.int .i64 who)).heap[(w.heap.size + 1 + 1)]? = some (.cells #[.slice B n d, .int .i64 who, .int .i64 0, .bool false, .int .i64 0] 25 (0, 0))) := B_r
                replace HO := Lib.hid (row_setN (g := (w.heap.size + 1 + 1)) (j := 2) (u := .int .i64 i) HO.out (fun k e => (HNE.out k e).2))
                have k_r_3 : ((W3.setCell ⟨(w.heap.size + 1 + 1), 0, none⟩ (.slice B n d)).setCell ⟨(w.heap.size + 1 + 1), 1, none⟩ (.int .i64 who)).cell? ⟨(w.heap.size + 1 + 1), 2, none⟩ = some (.int .i64 0) := box_cell B_r 2
                have y_r_3 : ((W3.setCell ⟨(w.heap.size + 1 + 1), 0, none⟩ (.slice B n d)).setCell ⟨(w.heap.size + 1 + 1), 1, none⟩ (.int .i64 who)).frozen? ⟨(w.heap.size + 1 + 1), 2, none⟩ = false := box_free B_r 2
                replace B_p := st_box (g' := (w.heap.size + 1 + 1)) (j := 2) B_p (.int .i64 i) (by omega)
                replace B_c := st_box (g' := (w.heap.size + 1 + 1)) (j := 2) B_c (.int .i64 i) (by omega)
                replace B_o := st_box (g' := (w.heap.size + 1 + 1)) (j := 2) B_o (.int .i64 i) (by omega)
                replace B_r := st_same B_r 2 (.int .i64 i)
                replace HG := Lib.hid (be_set (g := (w.heap.size + 1 + 1)) (j := 2) (u := .int .i64 i) HG.out  Z_r)
                replace B_r : Hid ((((W3.setCell ⟨(w.heap.size + 1 + 1), 0, none⟩ (.slice B n d)).setCell ⟨(w.heap.size + 1 + 1), 1, none⟩ (.int .i64 who)).setCell ⟨(w.heap.size + 1 + 1), 2, none⟩ (.int .i64 i)).heap[(w.heap.size + 1 + 1)]? = some (.cells #[.slice B n d, .int .i64 who, .int .i64 i, .bool false, .int .i64 0] 25 (0, 0))) := B_r
                replace HO := Lib.hid (row_setN (g := (w.heap.size + 1 + 1)) (j := 3) (u := .bool tb) HO.out (fun k e => (HNE.out k e).2))
                have k_r_4 : (((W3.setCell ⟨(w.heap.size + 1 + 1), 0, none⟩ (.slice B n d)).setCell ⟨(w.heap.size + 1 + 1), 1, none⟩ (.int .i64 who)).setCell ⟨(w.heap.size + 1 + 1), 2, none⟩ (.int .i64 i)).cell? ⟨(w.heap.size + 1 + 1), 3, none⟩ = some (.bool false) := box_cell B_r 3
                have y_r_4 : (((W3.setCell ⟨(w.heap.size + 1 + 1), 0, none⟩ (.slice B n d)).setCell ⟨(w.heap.size + 1 + 1), 1, none⟩ (.int .i64 who)).setCell ⟨(w.heap.size + 1 + 1), 2, none⟩ (.int .i64 i)).frozen? ⟨(w.heap.size + 1 + 1), 3, none⟩ = false := box_free B_r 3
                replace B_p := st_box (g' := (w.heap.size + 1 + 1)) (j := 3) B_p (.bool tb) (by omega)
                replace B_c := st_box (g' := (w.heap.size + 1 + 1)) (j := 3) B_c (.bool tb) (by omega)
                replace B_o := st_box (g' := (w.heap.size + 1 + 1)) (j := 3) B_o (.bool tb) (by omega)
                replace B_r := st_same B_r 3 (.bool tb)
                replace HG := Lib.hid (be_set (g := (w.heap.size + 1 + 1)) (j := 3) (u := .bool tb) HG.out  Z_r)
                replace B_r : Hid (((((W3.setCell ⟨(w.heap.size + 1 + 1), 0, none⟩ (.slice B n d)).setCell ⟨(w.heap.size + 1 + 1), 1, none⟩ (.int .i64 who)).setCell ⟨(w.heap.size + 1 + 1), 2, none⟩ (.int .i64 i)).setCell ⟨(w.heap.size + 1 + 1), 3, none⟩ (.bool tb)).heap[(w.heap.size + 1 + 1)]? = some (.cells #[.slice B n d, .int .i64 who, .int .i64 i, .bool tb, .int .i64 0] 25 (0, 0))) := B_r
                replace HO := Lib.hid (row_setN (g := (w.heap.size + 1 + 1)) (j := 4) (u := .int .i64 left) HO.out (fun k e => (HNE.out k e).2))
                have k_r_5 : ((((W3.setCell ⟨(w.heap.size + 1 + 1), 0, none⟩ (.slice B n d)).setCell ⟨(w.heap.size + 1 + 1), 1, none⟩ (.int .i64 who)).setCell ⟨(w.heap.size + 1 + 1), 2, none⟩ (.int .i64 i)).setCell ⟨(w.heap.size + 1 + 1), 3, none⟩ (.bool tb)).cell? ⟨(w.heap.size + 1 + 1), 4, none⟩ = some (.int .i64 0) := box_cell B_r 4
                have y_r_5 : ((((W3.setCell ⟨(w.heap.size + 1 + 1), 0, none⟩ (.slice B n d)).setCell ⟨(w.heap.size + 1 + 1), 1, none⟩ (.int .i64 who)).setCell ⟨(w.heap.size + 1 + 1), 2, none⟩ (.int .i64 i)).setCell ⟨(w.heap.size + 1 + 1), 3, none⟩ (.bool tb)).frozen? ⟨(w.heap.size + 1 + 1), 4, none⟩ = false := box_free B_r 4
                replace B_p := st_box (g' := (w.heap.size + 1 + 1)) (j := 4) B_p (.int .i64 left) (by omega)
                replace B_c := st_box (g' := (w.heap.size + 1 + 1)) (j := 4) B_c (.int .i64 left) (by omega)
                replace B_o := st_box (g' := (w.heap.size + 1 + 1)) (j := 4) B_o (.int .i64 left) (by omega)
                replace B_r := st_same B_r 4 (.int .i64 left)
                replace HG := Lib.hid (be_set (g := (w.heap.size + 1 + 1)) (j := 4) (u := .int .i64 left) HG.out  Z_r)
                replace B_r : Hid ((((((W3.setCell ⟨(w.heap.size + 1 + 1), 0, none⟩ (.slice B n d)).setCell ⟨(w.heap.size + 1 + 1), 1, none⟩ (.int .i64 who)).setCell ⟨(w.heap.size + 1 + 1), 2, none⟩ (.int .i64 i)).setCell ⟨(w.heap.size + 1 + 1), 3, none⟩ (.bool tb)).setCell ⟨(w.heap.size + 1 + 1), 4, none⟩ (.int .i64 left)).heap[(w.heap.size + 1 + 1)]? = some (.cells #[.slice B n d, .int .i64 who, .int .i64 i, .bool tb, .int .i64 left] 25 (0, 0))) := B_r
                have c_r_0 : (((((W3.setCell ⟨(w.heap.size + 1 + 1), 0, none⟩ (.slice B n d)).setCell ⟨(w.heap.size + 1 + 1), 1, none⟩ (.int .i64 who)).setCell ⟨(w.heap.size + 1 + 1), 2, none⟩ (.int .i64 i)).setCell ⟨(w.heap.size + 1 + 1), 3, none⟩ (.bool tb)).setCell ⟨(w.heap.size + 1 + 1), 4, none⟩ (.int .i64 left)).cell? ⟨(w.heap.size + 1 + 1), 0, none⟩ = some (.slice B n d) := box_cell B_r 0
                have c_r_1 : (((((W3.setCell ⟨(w.heap.size + 1 + 1), 0, none⟩ (.slice B n d)).setCell ⟨(w.heap.size + 1 + 1), 1, none⟩ (.int .i64 who)).setCell ⟨(w.heap.size + 1 + 1), 2, none⟩ (.int .i64 i)).setCell ⟨(w.heap.size + 1 + 1), 3, none⟩ (.bool tb)).setCell ⟨(w.heap.size + 1 + 1), 4, none⟩ (.int .i64 left)).cell? ⟨(w.heap.size + 1 + 1), 1, none⟩ = some (.int .i64 who) := box_cell B_r 1
                have c_r_2 : (((((W3.setCell ⟨(w.heap.size + 1 + 1), 0, none⟩ (.slice B n d)).setCell ⟨(w.heap.size + 1 + 1), 1, none⟩ (.int .i64 who)).setCell ⟨(w.heap.size + 1 + 1), 2, none⟩ (.int .i64 i)).setCell ⟨(w.heap.size + 1 + 1), 3, none⟩ (.bool tb)).setCell ⟨(w.heap.size + 1 + 1), 4, none⟩ (.int .i64 left)).cell? ⟨(w.heap.size + 1 + 1), 2, none⟩ = some (.int .i64 i) := box_cell B_r 2
                have c_r_3 : (((((W3.setCell ⟨(w.heap.size + 1 + 1), 0, none⟩ (.slice B n d)).setCell ⟨(w.heap.size + 1 + 1), 1, none⟩ (.int .i64 who)).setCell ⟨(w.heap.size + 1 + 1), 2, none⟩ (.int .i64 i)).setCell ⟨(w.heap.size + 1 + 1), 3, none⟩ (.bool tb)).setCell ⟨(w.heap.size + 1 + 1), 4, none⟩ (.int .i64 left)).cell? ⟨(w.heap.size + 1 + 1), 3, none⟩ = some (.bool tb) := box_cell B_r 3
                have c_r_4 : (((((W3.setCell ⟨(w.heap.size + 1 + 1), 0, none⟩ (.slice B n d)).setCell ⟨(w.heap.size + 1 + 1), 1, none⟩ (.int .i64 who)).setCell ⟨(w.heap.size + 1 + 1), 2, none⟩ (.int .i64 i)).setCell ⟨(w.heap.size + 1 + 1), 3, none⟩ (.bool tb)).setCell ⟨(w.heap.size + 1 + 1), 4, none⟩ (.int .i64 left)).cell? ⟨(w.heap.size + 1 + 1), 4, none⟩ = some (.int .i64 left) := box_cell B_r 4
                go_wp2_with fail
                exact bodyPost_ret (v := .tuple #[.agg #[.slice B n d, .int .i64 who, .int .i64 i, .bool tb, .int .i64 left], .bool false]) (by simp [results, Tryd.results14, go_sem, c_r_0, c_r_1, c_r_2, c_r_3, c_r_4]) rfl ⟨on, _, _, _, _, _, _, _, rfl, HN.out, HV.out, row_mono HO.out (by omega), HG.out⟩
              | true =>
                cases e2 : decide (1 < left) with
                | true =>
                  have hl1 : 1 < left := of_decide_eq_true e2
                  have HT := Lib.hid (pan_tick HV.out hl1)
                  have hl3 : left ≤ 3 := HT.out.2
                  have hwl : IntKind.i64.wrap (left - 1) = left - 1 := IntWalk.i64_in _ (by omega)
                  have c_p_4 : W3.cell? ⟨w.heap.size, 4, none⟩ = some (.int .i64 left) := box_cell B_p 4
                  have c_c_0 : W3.cell? ⟨(w.heap.size + 1), 0, none⟩ = some (.int .i64 kind) := box_cell B_c 0
                  replace HO := Lib.hid (row_setN (g := g) (j := 4) (u := .int .i64 (left - 1)) HO.out (fun k e => (HNE.out k e).1))
                  have k_o_1 : W3.cell? ⟨g, 4, none⟩ = some (.int .i64 left) := box_cell B_o 4
                  have y_o_1 : W3.frozen? ⟨g, 4, none⟩ = false := box_free B_o 4
                  replace B_p := st_box (g' := g) (j := 4) B_p (.int .i64 (left - 1)) (by omega)
                  replace B_c := st_box (g' := g) (j := 4) B_c (.int .i64 (left - 1)) (by omega)
                  replace B_r := st_box (g' := g) (j := 4) B_r (.int .i64 (left - 1)) (by omega)
                  replace B_o := st_same B_o 4 (.int .i64 (left - 1))
                  replace HG := Lib.hid (be_set (g := g) (j := 4) (u := .int .i64 (left - 1)) HG.out  Z_o)
                  replace B_o : Hid ((W3.setCell ⟨g, 4, none⟩ (.int .i64 (left - 1))).heap[g]? = some (.cells #[.slice B n d, .int .i64 who, .int .i64 i, .bool tb, .int .i64 (left - 1)] 25 (0, 0))) := B_o
                  have c_o_0 : (W3.setCell ⟨g, 4, none⟩ (.int .i64 (left - 1))).cell? ⟨g, 0, none⟩ = some (.slice B n d) := box_cell B_o 0
                  have c_o_1 : (W3.setCell ⟨g, 4, none⟩ (.int .i64 (left - 1))).cell? ⟨g, 1, none⟩ = some (.int .i64 who) := box_cell B_o 1
                  have c_o_2 : (W3.setCell ⟨g, 4, none⟩ (.int .i64 (left - 1))).cell? ⟨g, 2, none⟩ = some (.int .i64 i) := box_cell B_o 2
                  have c_o_3 : (W3.setCell ⟨g, 4, none⟩ (.int .i64 (left - 1))).cell? ⟨g, 3, none⟩ = some (.bool tb) := box_cell B_o 3
                  have c_o_4 : (W3.setCell ⟨g, 4, none⟩ (.int .i64 (left - 1))).cell? ⟨g, 4, none⟩ = some (.int .i64 (left - 1)) := box_cell B_o 4
                  replace HO := Lib.hid (row_setN (g := (w.heap.size + 1 + 1)) (j := 0) (u := .slice B n d) HO.out (fun k e => (HNE.out k e).2))
                  have k_r_2 : (W3.setCell ⟨g, 4, none⟩ (.int .i64 (left - 1))).cell? ⟨(w.heap.size + 1 + 1), 0, none⟩ = some (.slice none 0 0) := box_cell B_r 0
                  have y_r_2 : (W3.setCell ⟨g, 4, none⟩ (.int .i64 (left - 1))).frozen? ⟨(w.heap.size + 1 + 1), 0, none⟩ = false := box_free B_r 0
                  replace B_p := st_box (g' := (w.heap.size + 1 + 1)) (j := 0) B_p (.slice B n d) (by omega)
                  replace B_c := st_box (g' := (w.heap.size + 1 + 1)) (j := 0) B_c (.slice B n d) (by omega)
                  replace B_o := st_box (g' := (w.heap.size + 1 + 1)) (j := 0) B_o (.slice B n d) (by omega)
                  replace B_r := st_same B_r 0 (.slice B n d)
                  replace HG := Lib.hid (be_set (g := (w.heap.size + 1 + 1)) (j := 0) (u := .slice B n d) HG.out  Z_r)
                  replace B_r : Hid (((W3.setCell ⟨g, 4, none⟩ (.int .i64 (left - 1))).setCell ⟨(w.heap.size + 1 + 1), 0, none⟩ (.slice B n d)).heap[(w.heap.size + 1 + 1)]? = some (.cells #[.slice B n d, .int .i64 0, .int .i64 0, .bool false, .int .i64 0] 25 (0, 0))) := B_r
                  replace HO := Lib.hid (row_setN (g := (w.heap.size + 1 + 1)) (j := 1) (u := .int .i64 who) HO.out (fun k e => (HNE.out k e).2))
                  have k_r_3 : ((W3.setCell ⟨g, 4, none⟩ (.int .i64 (left - 1))).setCell ⟨(w.heap.size + 1 + 1), 0, none⟩ (.slice B n d)).cell? ⟨(w.heap.size + 1 + 1), 1, none⟩ = some (.int .i64 0) := box_cell B_r 1
                  have y_r_3 : ((W3.setCell ⟨g, 4, none⟩ (.int .i64 (left - 1))).setCell ⟨(w.heap.size + 1 + 1), 0, none⟩ (.slice B n d)).frozen? ⟨(w.heap.size + 1 + 1), 1, none⟩ = false := box_free B_r 1
                  replace B_p := st_box (g' := (w.heap.size + 1 + 1)) (j := 1) B_p (.int .i64 who) (by omega)
                  replace B_c := st_box (g' := (w.heap.size + 1 + 1)) (j := 1) B_c (.int .i64 who) (by omega)
                  replace B_o := st_box (g' := (w.heap.size + 1 + 1)) (j := 1) B_o (.int .i64 who) (by omega)
                  replace B_r := st_same B_r 1 (.int .i64 who)
                  replace HG := Lib.hid (be_set (g := (w.heap.size + 1 + 1)) (j := 1) (u := .int .i64 who) HG.out  Z_r)
                  replace B_r : Hid ((((W3.setCell ⟨g, 4, none⟩ (.int .i64 (left - 1))).setCell ⟨(w.heap.size + 1 + 1), 0, none⟩ (.slice B n d)).setCell ⟨(w.heap.size + 1 + 1), 1, none⟩ (.int .i64 who)).heap[(w.heap.size + 1 + 1)]? = some (.cells #[.slice B n d, .int .i64 who, .int .i64 0, .bool false, .int .i64 0] 25 (0, 0))) := B_r
                  replace HO := Lib.hid (row_setN (g := (w.heap.size + 1 + 1)) (j := 2) (u := .int .i64 i) HO.out (fun k e => (HNE.out k e).2))
                  have k_r_4 : (((W3.setCell ⟨g, 4, none⟩ (.int .i64 (left - 1))).setCell ⟨(w.heap.size + 1 + 1), 0, none⟩ (.slice B n d)).setCell ⟨(w.heap.size + 1 + 1), 1, none⟩ (.int .i64 who)).cell? ⟨(w.heap.size + 1 + 1), 2, none⟩ = some (.int .i64 0) := box_cell B_r 2
                  have y_r_4 : (((W3.setCell ⟨g, 4, none⟩ (.int .i64 (left - 1))).setCell ⟨(w.heap.size + 1 + 1), 0, none⟩ (.slice B n d)).setCell ⟨(w.heap.size + 1 + 1), 1, none⟩ (.int .i64 who)).frozen? ⟨(w.heap.size + 1 + 1), 2, none⟩ = false := box_free B_r 2
                  replace B_p := st_box (g' := (w.heap.size + 1 + 1)) (j := 2) B_p (.int .i64 i) (by omega)
                  replace B_c := st_box (g' := (w.heap.size + 1 + 1)) (j := 2) B_c (.int .i64 i) (by omega)
                  replace B_o := st_box (g' := (w.heap.size + 1 + 1)) (j := 2) B_o (.int .i64 i) (by omega)
                  replace B_r := st_same B_r 2 (.int .i64 i)
                  replace HG := Lib.hid (be_set (g := (w.heap.size + 1 + 1)) (j := 2) (u := .int .i64 i) HG.out  Z_r)
                  replace B_r : Hid (((((W3.setCell ⟨g, 4, none⟩ (.int .i64 (left - 1))).setCell ⟨(w.heap.size + 1 + 1), 0, none⟩ (.slice B n d)).setCell ⟨(w.heap.size + 1 + 1), 1, none⟩ (.int .i64 who)).setCell ⟨(w.heap.size + 1 + 1), 2, none⟩ (.int .i64 i)).heap[(w.heap.size + 1 + 1)]? = some (.cells #[.slice B n d, .int .i64 who, .int .i64 i, .bool false, .int .i64 0] 25 (0, 0))) := B_r
                  replace HO := Lib.hid (row_setN (g := (w.heap.size + 1 + 1)) (j := 3) (u := .bool tb) HO.out (fun k e => (HNE.out k e).2))
                  have k_r_5 : ((((W3.setCell ⟨g, 4, none⟩ (.int .i64 (left - 1))).setCell ⟨(w.heap.size + 1 + 1), 0, none⟩ (.slice B n d)).setCell ⟨(w.heap.size + 1 + 1), 1, none⟩ (.int .i64 who)).setCell ⟨(w.heap.size + 1 + 1), 2, none⟩ (.int .i64 i)).cell? ⟨(w.heap.size + 1 + 1), 3, none⟩ = some (.bool false) := box_cell B_r 3
                  have y_r_5 : ((((W3.setCell ⟨g, 4, none⟩ (.int .i64 (left - 1))).setCell ⟨(w.heap.size + 1 + 1), 0, none⟩ (.slice B n d)).setCell ⟨(w.heap.size + 1 + 1), 1, none⟩ (.int .i64 who)).setCell ⟨(w.heap.size + 1 + 1), 2, none⟩ (.int .i64 i)).frozen? ⟨(w.heap.size + 1 + 1), 3, none⟩ = false := box_free B_r 3
                  replace B_p := st_box (g' := (w.heap.size + 1 + 1)) (j := 3) B_p (.bool tb) (by omega)
                  replace B_c := st_box (g' := (w.heap.size + 1 + 1)) (j := 3) B_c (.bool tb) (by omega)
                  replace B_o := st_box (g' := (w.heap.size + 1 + 1)) (j := 3) B_o (.bool tb) (by omega)
                  replace B_r := st_same B_r 3 (.bool tb)
                  replace HG := Lib.hid (be_set (g := (w.heap.size + 1 + 1)) (j := 3) (u := .bool tb) HG.out  Z_r)
                  replace B_r : Hid ((((((W3.setCell ⟨g, 4, none⟩ (.int .i64 (left - 1))).setCell ⟨(w.heap.size + 1 + 1), 0, none⟩ (.slice B n d)).setCell ⟨(w.heap.size + 1 + 1), 1, none⟩ (.int .i64 who)).setCell ⟨(w.heap.size + 1 + 1), 2, none⟩ (.int .i64 i)).setCell ⟨(w.heap.size + 1 + 1), 3, none⟩ (.bool tb)).heap[(w.heap.size + 1 + 1)]? = some (.cells #[.slice B n d, .int .i64 who, .int .i64 i, .bool tb, .int .i64 0] 25 (0, 0))) := B_r
                  replace HO := Lib.hid (row_setN (g := (w.heap.size + 1 + 1)) (j := 4) (u := .int .i64 (left - 1)) HO.out (fun k e => (HNE.out k e).2))
                  have k_r_6 : (((((W3.setCell ⟨g, 4, none⟩ (.int .i64 (left - 1))).setCell ⟨(w.heap.size + 1 + 1), 0, none⟩ (.slice B n d)).setCell ⟨(w.heap.size + 1 + 1), 1, none⟩ (.int .i64 who)).setCell ⟨(w.heap.size + 1 + 1), 2, none⟩ (.int .i64 i)).setCell ⟨(w.heap.size + 1 + 1), 3, none⟩ (.bool tb)).cell? ⟨(w.heap.size + 1 + 1), 4, none⟩ = some (.int .i64 0) := box_cell B_r 4
                  have y_r_6 : (((((W3.setCell ⟨g, 4, none⟩ (.int .i64 (left - 1))).setCell ⟨(w.heap.size + 1 + 1), 0, none⟩ (.slice B n d)).setCell ⟨(w.heap.size + 1 + 1), 1, none⟩ (.int .i64 who)).setCell ⟨(w.heap.size + 1 + 1), 2, none⟩ (.int .i64 i)).setCell ⟨(w.heap.size + 1 + 1), 3, none⟩ (.bool tb)).frozen? ⟨(w.heap.size + 1 + 1), 4, none⟩ = false := box_free B_r 4
                  replace B_p := st_box (g' := (w.heap.size + 1 + 1)) (j := 4) B_p (.int .i64 (left - 1)) (by omega)
                  replace B_c := st_box (g' := (w.heap.size + 1 + 1)) (j := 4) B_c (.int .i64 (left - 1)) (by omega)
                  replace B_o := st_box (g' := (w.heap.size + 1 + 1)) (j := 4) B_o (.int .i64 (left - 1)) (by omega)
                  replace B_r := st_same B_r 4 (.int .i64 (left - 1))
                  replace HG := Lib.hid (be_set (g := (w.heap.size + 1 + 1)) (j := 4) (u := .int .i64 (left - 1)) HG.out  Z_r)
                  replace B_r : Hid (((((((W3.setCell ⟨g, 4, none⟩ (.int .i64 (left - 1))).setCell ⟨(w.heap.size + 1 + 1), 0, none⟩ (.slice B n d)).setCell ⟨(w.heap.size + 1 + 1), 1, none⟩ (.int .i64 who)).setCell ⟨(w.heap.size + 1 + 1), 2, none⟩ (.int .i64 i)).setCell ⟨(w.heap.size + 1 + 1), 3, none⟩ (.bool tb)).setCell ⟨(w.heap.size + 1 + 1), 4, none⟩ (.int .i64 (left - 1))).heap[(w.heap.size + 1 + 1)]? = some (.cells #[.slice B n d, .int .i64 who, .int .i64 i, .bool tb, .int .i64 (left - 1)] 25 (0, 0))) := B_r
                  have c_r_0 : ((((((W3.setCell ⟨g, 4, none⟩ (.int .i64 (left - 1))).setCell ⟨(w.heap.size + 1 + 1), 0, none⟩ (.slice B n d)).setCell ⟨(w.heap.size + 1 + 1), 1, none⟩ (.int .i64 who)).setCell ⟨(w.heap.size + 1 + 1), 2, none⟩ (.int .i64 i)).setCell ⟨(w.heap.size + 1 + 1), 3, none⟩ (.bool tb)).setCell ⟨(w.heap.size + 1 + 1), 4, none⟩ (.int .i64 (left - 1))).cell? ⟨(w.heap.size + 1 + 1), 0, none⟩ = some (.slice B n d) := box_cell B_r 0
                  have c_r_1 : ((((((W3.setCell ⟨g, 4, none⟩ (.int .i64 (left - 1))).setCell ⟨(w.heap.size + 1 + 1), 0, none⟩ (.slice B n d)).setCell ⟨(w.heap.size + 1 + 1), 1, none⟩ (.int .i64 who)).setCell ⟨(w.heap.size + 1 + 1), 2, none⟩ (.int .i64 i)).setCell ⟨(w.heap.size + 1 + 1), 3, none⟩ (.bool tb)).setCell ⟨(w.heap.size + 1 + 1), 4, none⟩ (.int .i64 (left - 1))).cell? ⟨(w.heap.size + 1 + 1), 1, none⟩ = some (.int .i64 who) := box_cell B_r 1
                  have c_r_2 : ((((((W3.setCell ⟨g, 4, none⟩ (.int .i64 (left - 1))).setCell ⟨(w.heap.size + 1 + 1), 0, none⟩ (.slice B n d)).setCell ⟨(w.heap.size + 1 + 1), 1, none⟩ (.int .i64 who)).setCell ⟨(w.heap.size + 1 + 1), 2, none⟩ (.int .i64 i)).setCell ⟨(w.heap.size + 1 + 1), 3, none⟩ (.bool tb)).setCell ⟨(w.heap.size + 1 + 1), 4, none⟩ (.int .i64 (left - 1))).cell? ⟨(w.heap.size + 1 + 1), 2, none⟩ = some (.int .i64 i) := box_cell B_r 2
                  have c_r_3 : ((((((W3.setCell ⟨g, 4, none⟩ (.int .i64 (left - 1))).setCell ⟨(w.heap.size + 1 + 1), 0, none⟩ (.slice B n d)).setCell ⟨(w.heap.size + 1 + 1), 1, none⟩ (.int .i64 who)).setCell ⟨(w.heap.size + 1 + 1), 2, none⟩ (.int .i64 i)).setCell ⟨(w.heap.size + 1 + 1), 3, none⟩ (.bool tb)).setCell ⟨(w.heap.size + 1 + 1), 4, none⟩ (.int .i64 (left - 1))).cell? ⟨(w.heap.size + 1 + 1), 3, none⟩ = some (.bool tb) := box_cell B_r 3
                  have c_r_4 : ((((((W3.setCell ⟨g, 4, none⟩ (.int .i64 (left - 1))).setCell ⟨(w.heap.size + 1 + 1), 0, none⟩ (.slice B n d)).setCell ⟨(w.heap.size + 1 + 1), 1, none⟩ (.int .i64 who)).setCell ⟨(w.heap.size + 1 + 1), 2, none⟩ (.int .i64 i)).setCell ⟨(w.heap.size + 1 + 1), 3, none⟩ (.bool tb)).setCell ⟨(w.heap.size + 1 + 1), 4, none⟩ (.int .i64 (left - 1))).cell? ⟨(w.heap.size + 1 + 1), 4, none⟩ = some (.int .i64 (left - 1)) := box_cell B_r 4
                  go_wp2_with fail
                  exact bodyPost_ret (v := .tuple #[.agg #[.slice B n d, .int .i64 who, .int .i64 i, .bool tb, .int .i64 (left - 1)], .bool true]) (by simp [results, Tryd.results14, go_sem, c_r_0, c_r_1, c_r_2, c_r_3, c_r_4]) rfl ⟨on, _, _, _, _, _, _, _, rfl, HN.out, HT.out.1, row_mono HO.out (by omega), HG.out⟩
                | false =>
                  have c_c_0 : W3.cell? ⟨(w.heap.size + 1), 0, none⟩ = some (.int .i64 kind) := box_cell B_c 0
                  have c_p_0 : W3.cell? ⟨w.heap.size, 0, none⟩ = some (.slice A n c) := box_cell B_p 0
                  have c_p_1 : W3.cell? ⟨w.heap.size, 1, none⟩ = some (.int .i64 who) := box_cell B_p 1
                  have c_p_2 : W3.cell? ⟨w.heap.size, 2, none⟩ = some (.int .i64 i) := box_cell B_p 2
                  have c_p_3 : W3.cell? ⟨w.heap.size, 3, none⟩ = some (.bool tb) := box_cell B_p 3
                  have c_p_4 : W3.cell? ⟨w.heap.size, 4, none⟩ = some (.int .i64 left) := box_cell B_p 4
                  have M_o : g < W3.heap.size := blk_lt B_o.out
                  go_wp2_with fail
                  refine (clearP A n c on who i tb left _ HN.out hm HNIL.out hra).mono ?_
                  rintro e w4 ⟨B2, d2, rfl, hr2, hbn⟩
                  replace HG := Lib.hid (seqB HG.out hbn)
                  replace HO := Lib.hid hr2
                  obtain ⟨g2, rfl, hg2⟩ := row_addr HO.out hn0
                  clear hr2 hra HNE
                  replace B_p := be_box B_p hbn
                  replace B_c := be_box B_c hbn
                  replace B_r := be_box B_r hbn
                  replace B_o := be_box B_o hbn
                  clear hbn
                  clear c_p_0 c_p_1 c_p_2 c_p_3 c_p_4
                  replace HO := Lib.hid (row_setP (g := g) (j := 0) (u := .slice (some ⟨g2, 0, none⟩) n d2) HO.out M_o)
                  have k_o_1 : w4.cell? ⟨g, 0, none⟩ = some (.slice B n d) := box_cell B_o 0
                  have y_o_1 : w4.frozen? ⟨g, 0, none⟩ = false := box_free B_o 0
                  replace B_p := st_box (g' := g) (j := 0) B_p (.slice (some ⟨g2, 0, none⟩) n d2) (by omega)
                  replace B_c := st_box (g' := g) (j := 0) B_c (.slice (some ⟨g2, 0, none⟩) n d2) (by omega)
                  replace B_r := st_box (g' := g) (j := 0) B_r (.slice (some ⟨g2, 0, none⟩) n d2) (by omega)
                  replace B_o := st_same B_o 0 (.slice (some ⟨g2, 0, none⟩) n d2)
                  replace HG := Lib.hid (be_set (g := g) (j := 0) (u := .slice (some ⟨g2, 0, none⟩) n d2) HG.out  Z_o)
                  replace B_o : Hid ((w4.setCell ⟨g, 0, none⟩ (.slice (some ⟨g2, 0, none⟩) n d2)).heap[g]? = some (.cells #[.slice (some ⟨g2, 0, none⟩) n d2, .int .i64 who, .int .i64 i, .bool tb, .int .i64 left] 25 (0, 0))) := B_o
                  replace HO := Lib.hid (row_setP (g := g) (j := 1) (u := .int .i64 (-1)) HO.out M_o)
                  have k_o_2 : (w4.setCell ⟨g, 0, none⟩ (.slice (some ⟨g2, 0, none⟩) n d2)).cell? ⟨g, 1, none⟩ = some (.int .i64 who) := box_cell B_o 1
                  have y_o_2 : (w4.setCell ⟨g, 0, none⟩ (.slice (some ⟨g2, 0, none⟩) n d2)).frozen? ⟨g, 1, none⟩ = false := box_free B_o 1
                  replace B_p := st_box (g' := g) (j := 1) B_p (.int .i64 (-1)) (by omega)
                  replace B_c := st_box (g' := g) (j := 1) B_c (.int .i64 (-1)) (by omega)
                  replace B_r := st_box (g' := g) (j := 1) B_r (.int .i64 (-1)) (by omega)
                  replace B_o := st_same B_o 1 (.int .i64 (-1))
                  replace HG := Lib.hid (be_set (g := g) (j := 1) (u := .int .i64 (-1)) HG.out  Z_o)
                  replace B_o : Hid (((w4.setCell ⟨g, 0, none⟩ (.slice (some ⟨g2, 0, none⟩) n d2)).setCell ⟨g, 1, none⟩ (.int .i64 (-1))).heap[g]? = some (.cells #[.slice (some ⟨g2, 0, none⟩) n d2, .int .i64 (-1), .int .i64 i, .bool tb, .int .i64 left] 25 (0, 0))) := B_o
                  replace HO := Lib.hid (row_setP (g := g) (j := 2) (u := .int .i64 0) HO.out M_o)
                  have k_o_3 : ((w4.setCell ⟨g, 0, none⟩ (.slice (some ⟨g2, 0, none⟩) n d2)).setCell ⟨g, 1, none⟩ (.int .i64 (-1))).cell? ⟨g, 2, none⟩ = some (.int .i64 i) := box_cell B_o 2
                  have y_o_3 : ((w4.setCell ⟨g, 0, none⟩ (.slice (some ⟨g2, 0, none⟩) n d2)).setCell ⟨g, 1, none⟩ (.int .i64 (-1))).frozen? ⟨g, 2, none⟩ = false := box_free B_o 2
                  replace B_p := st_box (g' := g) (j := 2) B_p (.int .i64 0) (by omega)
                  replace B_c := st_box (g' := g) (j := 2) B_c (.int .i64 0) (by omega)
                  replace B_r := st_box (g' := g) (j := 2) B_r (.int .i64 0) (by omega)
                  replace B_o := st_same B_o 2 (.int .i64 0)
                  replace HG := Lib.hid (be_set (g := g) (j := 2) (u := .int .i64 0) HG.out  Z_o)
                  replace B_o : Hid ((((w4.setCell ⟨g, 0, none⟩ (.slice (some ⟨g2, 0, none⟩) n d2)).setCell ⟨g, 1, none⟩ (.int .i64 (-1))).setCell ⟨g, 2, none⟩ (.int .i64 0)).heap[g]? = some (.cells #[.slice (some ⟨g2, 0, none⟩) n d2, .int .i64 (-1), .int .i64 0, .bool tb, .int .i64 left] 25 (0, 0))) := B_o
                  replace HO := Lib.hid (row_setP (g := g) (j := 3) (u := .bool false) HO.out M_o)
                  have k_o_4 : (((w4.setCell ⟨g, 0, none⟩ (.slice (some ⟨g2, 0, none⟩) n d2)).setCell ⟨g, 1, none⟩ (.int .i64 (-1))).setCell ⟨g, 2, none⟩ (.int .i64 0)).cell? ⟨g, 3, none⟩ = some (.bool tb) := box_cell B_o 3
                  have y_o_4 : (((w4.setCell ⟨g, 0, none⟩ (.slice (some ⟨g2, 0, none⟩) n d2)).setCell ⟨g, 1, none⟩ (.int .i64 (-1))).setCell ⟨g, 2, none⟩ (.int .i64 0)).frozen? ⟨g, 3, none⟩ = false := box_free B_o 3
                  replace B_p := st_box (g' := g) (j := 3) B_p (.bool false) (by omega)
                  replace B_c := st_box (g' := g) (j := 3) B_c (.bool false) (by omega)
                  replace B_r := st_box (g' := g) (j := 3) B_r (.bool false) (by omega)
                  replace B_o := st_same B_o 3 (.bool false)
                  replace HG := Lib.hid (be_set (g := g) (j := 3) (u := .bool false) HG.out  Z_o)
                  replace B_o : Hid (((((w4.setCell ⟨g, 0, none⟩ (.slice (some ⟨g2, 0, none⟩) n d2)).setCell ⟨g, 1, none⟩ (.int .i64 (-1))).setCell ⟨g, 2, none⟩ (.int .i64 0)).setCell ⟨g, 3, none⟩ (.bool false)).heap[g]? = some (.cells #[.slice (some ⟨g2, 0, none⟩) n d2, .int .i64 (-1), .int .i64 0, .bool false, .int .i64 left] 25 (0, 0))) := B_o
                  replace HO := Lib.hid (row_setP (g := g) (j := 4) (u := .int .i64 0) HO.out M_o)
                  have k_o_5 : ((((w4.setCell ⟨g, 0, none⟩ (.slice (some ⟨g2, 0, none⟩) n d2)).setCell ⟨g, 1, none⟩ (.int .i64 (-1))).setCell ⟨g, 2, none⟩ (.int .i64 0)).setCell ⟨g, 3, none⟩ (.bool false)).cell? ⟨g, 4, none⟩ = some (.int .i64 left) := box_cell B_o 4
                  have y_o_5 : ((((w4.setCell ⟨g, 0, none⟩ (.slice (some ⟨g2, 0, none⟩) n d2)).setCell ⟨g, 1, none⟩ (.int .i64 (-1))).setCell ⟨g, 2, none⟩ (.int .i64 0)).setCell ⟨g, 3, none⟩ (.bool false)).frozen? ⟨g, 4, none⟩ = false := box_free B_o 4
                  replace B_p := st_box (g' := g) (j := 4) B_p (.int .i64 0) (by omega)
                  replace B_c := st_box (g' := g) (j := 4) B_c (.int .i64 0) (by omega)
                  replace B_r := st_box (g' := g) (j := 4) B_r (.int .i64 0) (by omega)
                  replace B_o := st_same B_o 4 (.int .i64 0)
                  replace HG := Lib.hid (be_set (g := g) (j := 4) (u := .int .i64 0) HG.out  Z_o)
                  replace B_o : Hid ((((((w4.setCell ⟨g, 0, none⟩ (.slice (some ⟨g2, 0, none⟩) n d2)).setCell ⟨g, 1, none⟩ (.int .i64 (-1))).setCell ⟨g, 2, none⟩ (.int .i64 0)).setCell ⟨g, 3, none⟩ (.bool false)).setCell ⟨g, 4, none⟩ (.int .i64 0)).heap[g]? = some (.cells #[.slice (some ⟨g2, 0, none⟩) n d2, .int .i64 (-1), .int .i64 0, .bool false, .int .i64 0] 25 (0, 0))) := B_o
                  have c_o_0 : (((((w4.setCell ⟨g, 0, none⟩ (.slice (some ⟨g2, 0, none⟩) n d2)).setCell ⟨g, 1, none⟩ (.int .i64 (-1))).setCell ⟨g, 2, none⟩ (.int .i64 0)).setCell ⟨g, 3, none⟩ (.bool false)).setCell ⟨g, 4, none⟩ (.int .i64 0)).cell? ⟨g, 0, none⟩ = some (.slice (some ⟨g2, 0, none⟩) n d2) := box_cell B_o 0
                  have c_o_1 : (((((w4.setCell ⟨g, 0, none⟩ (.slice (some ⟨g2, 0, none⟩) n d2)).setCell ⟨g, 1, none⟩ (.int .i64 (-1))).setCell ⟨g, 2, none⟩ (.int .i64 0)).setCell ⟨g, 3, none⟩ (.bool false)).setCell ⟨g, 4, none⟩ (.int .i64 0)).cell? ⟨g, 1, none⟩ = some (.int .i64 (-1)) := box_cell B_o 1
                  have c_o_2 : (((((w4.setCell ⟨g, 0, none⟩ (.slice (some ⟨g2, 0, none⟩) n d2)).setCell ⟨g, 1, none⟩ (.int .i64 (-1))).setCell ⟨g, 2, none⟩ (.int .i64 0)).setCell ⟨g, 3, none⟩ (.bool false)).setCell ⟨g, 4, none⟩ (.int .i64 0)).cell? ⟨g, 2, none⟩ = some (.int .i64 0) := box_cell B_o 2
                  have c_o_3 : (((((w4.setCell ⟨g, 0, none⟩ (.slice (some ⟨g2, 0, none⟩) n d2)).setCell ⟨g, 1, none⟩ (.int .i64 (-1))).setCell ⟨g, 2, none⟩ (.int .i64 0)).setCell ⟨g, 3, none⟩ (.bool false)).setCell ⟨g, 4, none⟩ (.int .i64 0)).cell? ⟨g, 3, none⟩ = some (.bool false) := box_cell B_o 3
                  have c_o_4 : (((((w4.setCell ⟨g, 0, none⟩ (.slice (some ⟨g2, 0, none⟩) n d2)).setCell ⟨g, 1, none⟩ (.int .i64 (-1))).setCell ⟨g, 2, none⟩ (.int .i64 0)).setCell ⟨g, 3, none⟩ (.bool false)).setCell ⟨g, 4, none⟩ (.int .i64 0)).cell? ⟨g, 4, none⟩ = some (.int .i64 0) := box_cell B_o 4
                  replace HO := Lib.hid (row_setP (g := (w.heap.size + 1 + 1)) (j := 0) (u := .slice (some ⟨g2, 0, none⟩) n d2) HO.out (by omega))
                  have k_r_6 : (((((w4.setCell ⟨g, 0, none⟩ (.slice (some ⟨g2, 0, none⟩) n d2)).setCell ⟨g, 1, none⟩ (.int .i64 (-1))).setCell ⟨g, 2, none⟩ (.int .i64 0)).setCell ⟨g, 3, none⟩ (.bool false)).setCell ⟨g, 4, none⟩ (.int .i64 0)).cell? ⟨(w.heap.size + 1 + 1), 0, none⟩ = some (.slice none 0 0) := box_cell B_r 0
                  have y_r_6 : (((((w4.setCell ⟨g, 0, none⟩ (.slice (some ⟨g2, 0, none⟩) n d2)).setCell ⟨g, 1, none⟩ (.int .i64 (-1))).setCell ⟨g, 2, none⟩ (.int .i64 0)).setCell ⟨g, 3, none⟩ (.bool false)).setCell ⟨g, 4, none⟩ (.int .i64 0)).frozen? ⟨(w.heap.size + 1 + 1), 0, none⟩ = false := box_free B_r 0
                  replace B_p := st_box (g' := (w.heap.size + 1 + 1)) (j := 0) B_p (.slice (some ⟨g2, 0, none⟩) n d2) (by omega)
                  replace B_c := st_box (g' := (w.heap.size + 1 + 1)) (j := 0) B_c (.slice (some ⟨g2, 0, none⟩) n d2) (by omega)
                  replace B_o := st_box (g' := (w.heap.size + 1 + 1)) (j := 0) B_o (.slice (some ⟨g2, 0, none⟩) n d2) (by omega)
                  replace B_r := st_same B_r 0 (.slice (some ⟨g2, 0, none⟩) n d2)
                  replace HG := Lib.hid (be_set (g := (w.heap.size + 1 + 1)) (j := 0) (u := .slice (some ⟨g2, 0, none⟩) n d2) HG.out  Z_r)
                  replace B_r : Hid (((((((w4.setCell ⟨g, 0, none⟩ (.slice (some ⟨g2, 0, none⟩) n d2)).setCell ⟨g, 1, none⟩ (.int .i64 (-1))).setCell ⟨g, 2, none⟩ (.int .i64 0)).setCell ⟨g, 3, none⟩ (.bool false)).setCell ⟨g, 4, none⟩ (.int .i64 0)).setCell ⟨(w.heap.size + 1 + 1), 0, none⟩ (.slice (some ⟨g2, 0, none⟩) n d2)).heap[(w.heap.size + 1 + 1)]? = some (.cells #[.slice (some ⟨g2, 0, none⟩) n d2, .int .i64 0, .int .i64 0, .bool false, .int .i64 0] 25 (0, 0))) := B_r
                  replace HO := Lib.hid (row_setP (g := (w.heap.size + 1 + 1)) (j := 1) (u := .int .i64 (-1)) HO.out (by omega))
                  have k_r_7 : ((((((w4.setCell ⟨g, 0, none⟩ (.slice (some ⟨g2, 0, none⟩) n d2)).setCell ⟨g, 1, none⟩ (.int .i64 (-1))).setCell ⟨g, 2, none⟩ (.int .i64 0)).setCell ⟨g, 3, none⟩ (.bool false)).setCell ⟨g, 4, none⟩ (.int .i64 0)).setCell ⟨(w.heap.size + 1 + 1), 0, none⟩ (.slice (some ⟨g2, 0, none⟩) n d2)).cell? ⟨(w.heap.size + 1 + 1), 1, none⟩ = some (.int .i64 0) := box_cell B_r 1
                  have y_r_7 : ((((((w4.setCell ⟨g, 0, none⟩ (.slice (some ⟨g2, 0, none⟩) n d2)).setCell ⟨g, 1, none⟩ (.int .i64 (-1))).setCell ⟨g, 2, none⟩ (.int .i64 0)).setCell ⟨g, 3, none⟩ (.bool false)).setCell ⟨g, 4, none⟩ (.int .i64 0)).setCell ⟨(w.heap.size + 1 + 1), 0, none⟩ (.slice (some ⟨g2, 0, none⟩) n d2)).frozen? ⟨(w.heap.size + 1 + 1), 1, none⟩ = false := box_free B_r 1
                  replace B_p := st_box (g' := (w.heap.size + 1 + 1)) (j := 1) B_p (.int .i64 (-1)) (by omega)
                  replace B_c := st_box (g' := (w.heap.size + 1 + 1)) (j := 1) B_c (.int .i64 (-1)) (by omega)
                  replace B_o := st_box (g' := (w.heap.size + 1 + 1)) (j := 1) B_o (.int .i64 (-1)) (by omega)
                  replace B_r := st_same B_r 1 (.int .i64 (-1))
                  replace HG := Lib.hid (be_set (g := (w.heap.size + 1 + 1)) (j := 1) (u := .int .i64 (-1)) HG.out  Z_r)
                  replace B_r : Hid ((((((((w4.setCell ⟨g, 0, none⟩ (.slice (some ⟨g2, 0, none⟩) n d2)).setCell ⟨g, 1, none⟩ (.int .i64 (-1))).setCell ⟨g, 2, none⟩ (.int .i64 0)).setCell ⟨g, 3, none⟩ (.bool false)).setCell ⟨g, 4, none⟩ (.int .i64 0)).setCell ⟨(w.heap.size + 1 + 1), 0, none⟩ (.slice (some ⟨g2, 0, none⟩) n d2)).setCell ⟨(w.heap.size + 1 + 1), 1, none⟩ (.int .i64 (-1))).heap[(w.heap.size + 1 + 1)]? = some (.cells #[.slice (some ⟨g2, 0, none⟩) n d2, .int .i64 (-1), .int .i64 0, .bool false, .int .i64 0] 25 (0, 0))) := B_r
                  replace HO := Lib.hid (row_setP (g := (w.heap.size + 1 + 1)) (j := 2) (u := .int .i64 0) HO.out (by omega))
                  have k_r_8 : (((((((w4.setCell ⟨g, 0, none⟩ (.slice (some ⟨g2, 0, none⟩) n d2)).setCell ⟨g, 1, none⟩ (.int .i64 (-1))).setCell ⟨g, 2, none⟩ (.int .i64 0)).setCell ⟨g, 3, none⟩ (.bool false)).setCell ⟨g, 4, none⟩ (.int .i64 0)).setCell ⟨(w.heap.size + 1 + 1), 0, none⟩ (.slice (some ⟨g2, 0, none⟩) n d2)).setCell ⟨(w.heap.size + 1 + 1), 1, none⟩ (.int .i64 (-1))).cell? ⟨(w.heap.size + 1 + 1), 2, none⟩ = some (.int .i64 0) := box_cell B_r 2
                  have y_r_8 : (((((((w4.setCell ⟨g, 0, none⟩ (.slice (some ⟨g2, 0, none⟩) n d2)).setCell ⟨g, 1, none⟩ (.int .i64 (-1))).setCell ⟨g, 2, none⟩ (.int .i64 0)).setCell ⟨g, 3, none⟩ (.bool false)).setCell ⟨g, 4, none⟩ (.int .i64 0)).setCell ⟨(w.heap.size + 1 + 1), 0, none⟩ (.slice (some ⟨g2, 0, none⟩) n d2)).setCell ⟨(w.heap.size + 1 + 1), 1, none⟩ (.int .i64 (-1))).frozen? ⟨(w.heap.size + 1 + 1), 2, none⟩ = false := box_free B_r 2
                  replace B_p := st_box (g' := (w.heap.size + 1 + 1)) (j := 2) B_p (.int .i64 0) (by omega)
                  replace B_c := st_box (g' := (w.heap.size + 1 + 1)) (j := 2) B_c (.int .i64 0) (by omega)
                  replace B_o := st_box (g' := (w.heap.size + 1 + 1)) (j := 2) B_o (.int .i64 0) (by omega)
                  replace B_r := st_same B_r 2 (.int .i64 0)
                  replace HG := Lib.hid (be_set (g := (w.heap.size + 1 + 1)) (j := 2) (u := .int .i64 0) HG.out  Z_r)
                  replace B_r : Hid (((((((((w4.setCell ⟨g, 0, none⟩ (.slice (some ⟨g2, 0, none⟩) n d2)).setCell ⟨g, 1, none⟩ (.int .i64 (-1))).setCell ⟨g, 2, none⟩ (.int .i64 0)).setCell ⟨g, 3, none⟩ (.bool false)).setCell ⟨g, 4, none⟩ (.int .i64 0)).setCell ⟨(w.heap.size + 1 + 1), 0, none⟩ (.slice (some ⟨g2, 0, none⟩) n d2)).setCell ⟨(w.heap.size + 1 + 1), 1, none⟩ (.int .i64 (-1))).setCell ⟨(w.heap.size + 1 + 1), 2, none⟩ (.int .i64 0)).heap[(w.heap.size + 1 + 1)]? = some (.cells #[.slice (some ⟨g2, 0, none⟩) n d2, .int .i64 (-1), .int .i64 0, .bool false, .int .i64 0] 25 (0, 0))) := B_r
                  replace HO := Lib.hid (row_setP (g := (w.heap.size + 1 + 1)) (j := 3) (u := .bool false) HO.out (by omega))
                  have k_r_9 : ((((((((w4.setCell ⟨g, 0, none⟩ (.slice (some ⟨g2, 0, none⟩) n d2)).setCell ⟨g, 1, none⟩ (.int .i64 (-1))).setCell ⟨g, 2, none⟩ (.int .i64 0)).setCell ⟨g, 3, none⟩ (.bool false)).setCell ⟨g, 4, none⟩ (.int .i64 0)).setCell ⟨(w.heap.size + 1 + 1), 0, none⟩ (.slice (some ⟨g2, 0, none⟩) n d2)).setCell ⟨(w.heap.size + 1 + 1), 1, none⟩ (.int .i64 (-1))).setCell ⟨(w.heap.size + 1 + 1), 2, none⟩ (.int .i64 0)).cell? ⟨(w.heap.size + 1 + 1), 3, none⟩ = some (.bool false) := box_cell B_r 3
                  have y_r_9 : ((((((((w4.setCell ⟨g, 0, none⟩ (.slice (some ⟨g2, 0, none⟩) n d2)).setCell ⟨g, 1, none⟩ (.int .i64 (-1))).setCell ⟨g, 2, none⟩ (.int .i64 0)).setCell ⟨g, 3, none⟩ (.bool false)).setCell ⟨g, 4, none⟩ (.int .i64 0)).setCell ⟨(w.heap.size + 1 + 1), 0, none⟩ (.slice (some ⟨g2, 0, none⟩) n d2)).setCell ⟨(w.heap.size + 1 + 1), 1, none⟩ (.int .i64 (-1))).setCell ⟨(w.heap.size + 1 + 1), 2, none⟩ (.int .i64 0)).frozen? ⟨(w.heap.size + 1 + 1), 3, none⟩ = false := box_free B_r 3
                  replace B_p := st_box (g' := (w.heap.size + 1 + 1)) (j := 3) B_p (.bool false) (by omega)
                  replace B_c := st_box (g' := (w.heap.size + 1 + 1)) (j := 3) B_c (.bool false) (by omega)
                  replace B_o := st_box (g' := (w.heap.size + 1 + 1)) (j := 3) B_o (.bool false) (by omega)
                  replace B_r := st_same B_r 3 (.bool false)
                  replace HG := Lib.hid (be_set (g := (w.heap.size + 1 + 1)) (j := 3) (u := .bool false) HG.out  Z_r)
                  replace B_r : Hid ((((((((((w4.setCell ⟨g, 0, none⟩ (.slice (some ⟨g2, 0, none⟩) n d2)).setCell ⟨g, 1, none⟩ (.int .i64 (-1))).setCell ⟨g, 2, none⟩ (.int .i64 0)).setCell ⟨g, 3, none⟩ (.bool false)).setCell ⟨g, 4, none⟩ (.int .i64 0)).setCell ⟨(w.heap.size + 1 + 1), 0, none⟩ (.slice (some ⟨g2, 0, none⟩) n d2)).setCell ⟨(w.heap.size + 1 + 1), 1, none⟩ (.int .i64 (-1))).setCell ⟨(w.heap.size + 1 + 1), 2, none⟩ (.int .i64 0)).setCell ⟨(w.heap.size + 1 + 1), 3, none⟩ (.bool false)).heap[(w.heap.size + 1 + 1)]? = some (.cells #[.slice (some ⟨g2, 0, none⟩) n d2, .int .i64 (-1), .int .i64 0, .bool false, .int .i64 0] 25 (0, 0))) := B_r
                  replace HO := Lib.hid (row_setP (g := (w.heap.size + 1 + 1)) (j := 4) (u := .int .i64 0) HO.out (by omega))
                  have k_r_10 : (((((((((w4.setCell ⟨g, 0, none⟩ (.slice (some ⟨g2, 0, none⟩) n d2)).setCell ⟨g, 1, none⟩ (.int .i64 (-1))).setCell ⟨g, 2, none⟩ (.int .i64 0)).setCell ⟨g, 3, none⟩ (.bool false)).setCell ⟨g, 4, none⟩ (.int .i64 0)).setCell ⟨(w.heap.size + 1 + 1), 0, none⟩ (.slice (some ⟨g2, 0, none⟩) n d2)).setCell ⟨(w.heap.size + 1 + 1), 1, none⟩ (.int .i64 (-1))).setCell ⟨(w.heap.size + 1 + 1), 2, none⟩ (.int .i64 0)).setCell ⟨(w.heap.size + 1 + 1), 3, none⟩ (.bool false)).cell? ⟨(w.heap.size + 1 + 1), 4, none⟩ = some (.int .i64 0) := box_cell B_r 4
                  have y_r_10 : (((((((((w4.setCell ⟨g, 0, none⟩ (.slice (some ⟨g2, 0, none⟩) n d2)).setCell ⟨g, 1, none⟩ (.int .i64 (-1))).setCell ⟨g, 2, none⟩ (.int .i64 0)).setCell ⟨g, 3, none⟩ (.bool false)).setCell ⟨g, 4, none⟩ (.int .i64 0)).setCell ⟨(w.heap.size + 1 + 1), 0, none⟩ (.slice (some ⟨g2, 0, none⟩) n d2)).setCell ⟨(w.heap.size + 1 + 1), 1, none⟩ (.int .i64 (-1))).setCell ⟨(w.heap.size + 1 + 1), 2, none⟩ (.int .i64 0)).setCell ⟨(w.heap.size + 1 + 1), 3, none⟩ (.bool false)).frozen? ⟨(w.heap.size + 1 + 1), 4, none⟩ = false := box_free B_r 4
                  replace B_p := st_box (g' := (w.heap.size + 1 + 1)) (j := 4) B_p (.int .i64 0) (by omega)
                  replace B_c := st_box (g' := (w.heap.size + 1 + 1)) (j := 4) B_c (.int .i64 0) (by omega)
                  replace B_o := st_box (g' := (w.heap.size + 1 + 1)) (j := 4) B_o (.int .i64 0) (by omega)
                  replace B_r := st_same B_r 4 (.int .i64 0)
                  replace HG := Lib.hid (be_set (g := (w.heap.size + 1 + 1)) (j := 4) (u := .int .i64 0) HG.out  Z_r)
                  replace B_r : Hid (((((((((((w4.setCell ⟨g, 0, none⟩ (.slice (some ⟨g2, 0, none⟩) n d2)).setCell ⟨g, 1, none⟩ (.int .i64 (-1))).setCell ⟨g, 2, none⟩ (.int .i64 0)).setCell ⟨g, 3, none⟩ (.bool false)).setCell ⟨g, 4, none⟩ (.int .i64 0)).setCell ⟨(w.heap.size + 1 + 1), 0, none⟩ (.slice (some ⟨g2, 0, none⟩) n d2)).setCell ⟨(w.heap.size + 1 + 1), 1, none⟩ (.int .i64 (-1))).setCell ⟨(w.heap.size + 1 + 1), 2, none⟩ (.int .i64 0)).setCell ⟨(w.heap.size + 1 + 1), 3, none⟩ (.bool false)).setCell ⟨(w.heap.size + 1 + 1), 4, none⟩ (.int .i64 0)).heap[(w.heap.size + 1 + 1)]? = some (.cells #[.slice (some ⟨g2, 0, none⟩) n d2, .int .i64 (-1), .int .i64 0, .bool false, .int .i64 0] 25 (0, 0))) := B_r
                  have c_r_0 : ((((((((((w4.setCell ⟨g, 0, none⟩ (.slice (some ⟨g2, 0, none⟩) n d2)).setCell ⟨g, 1, none⟩ (.int .i64 (-1))).setCell ⟨g, 2, none⟩ (.int .i64 0)).setCell ⟨g, 3, none⟩ (.bool false)).setCell ⟨g, 4, none⟩ (.int .i64 0)).setCell ⟨(w.heap.size + 1 + 1), 0, none⟩ (.slice (some ⟨g2, 0, none⟩) n d2)).setCell ⟨(w.heap.size + 1 + 1), 1, none⟩ (.int .i64 (-1))).setCell ⟨(w.heap.size + 1 + 1), 2, none⟩ (.int .i64 0)).setCell ⟨(w.heap.size + 1 + 1), 3, none⟩ (.bool false)).setCell ⟨(w.heap.size + 1 + 1), 4, none⟩ (.int .i64 0)).cell? ⟨(w.heap.size + 1 + 1), 0, none⟩ = some (.slice (some ⟨g2, 0, none⟩) n d2) := box_cell B_r 0
                  have c_r_1 : ((((((((((w4.setCell ⟨g, 0, none⟩ (.slice (some ⟨g2, 0, none⟩) n d2)).setCell ⟨g, 1, none⟩ (.int .i64 (-1))).setCell ⟨g, 2, none⟩ (.int .i64 0)).setCell ⟨g, 3, none⟩ (.bool false)).setCell ⟨g, 4, none⟩ (.int .i64 0)).setCell ⟨(w.heap.size + 1 + 1), 0, none⟩ (.slice (some ⟨g2, 0, none⟩) n d2)).setCell ⟨(w.heap.size + 1 + 1), 1, none⟩ (.int .i64 (-1))).setCell ⟨(w.heap.size + 1 + 1), 2, none⟩ (.int .i64 0)).setCell ⟨(w.heap.size + 1 + 1), 3, none⟩ (.bool false)).setCell ⟨(w.heap.size + 1 + 1), 4, none⟩ (.int .i64 0)).cell? ⟨(w.heap.size + 1 + 1), 1, none⟩ = some (.int .i64 (-1)) := box_cell B_r 1
                  have c_r_2 : ((((((((((w4.setCell ⟨g, 0, none⟩ (.slice (some ⟨g2, 0, none⟩) n d2)).setCell ⟨g, 1, none⟩ (.int .i64 (-1))).setCell ⟨g, 2, none⟩ (.int .i64 0)).setCell ⟨g, 3, none⟩ (.bool false)).setCell ⟨g, 4, none⟩ (.int .i64 0)).setCell ⟨(w.heap.size + 1 + 1), 0, none⟩ (.slice (some ⟨g2, 0, none⟩) n d2)).setCell ⟨(w.heap.size + 1 + 1), 1, none⟩ (.int .i64 (-1))).setCell ⟨(w.heap.size + 1 + 1), 2, none⟩ (.int .i64 0)).setCell ⟨(w.heap.size + 1 + 1), 3, none⟩ (.bool false)).setCell ⟨(w.heap.size + 1 + 1), 4, none⟩ (.int .i64 0)).cell? ⟨(w.heap.size + 1 + 1), 2, none⟩ = some (.int .i64 0) := box_cell B_r 2
                  have c_r_3 : ((((((((((w4.setCell ⟨g, 0, none⟩ (.slice (some ⟨g2, 0, none⟩) n d2)).setCell ⟨g, 1, none⟩ (.int .i64 (-1))).setCell ⟨g, 2, none⟩ (.int .i64 0)).setCell ⟨g, 3, none⟩ (.bool false)).setCell ⟨g, 4, none⟩ (.int .i64 0)).setCell ⟨(w.heap.size + 1 + 1), 0, none⟩ (.slice (some ⟨g2, 0, none⟩) n d2)).setCell ⟨(w.heap.size + 1 + 1), 1, none⟩ (.int .i64 (-1))).setCell ⟨(w.heap.size + 1 + 1), 2, none⟩ (.int .i64 0)).setCell ⟨(w.heap.size + 1 + 1), 3, none⟩ (.bool false)).setCell ⟨(w.heap.size + 1 + 1), 4, none⟩ (.int .i64 0)).cell? ⟨(w.heap.size + 1 + 1), 3, none⟩ = some (.bool false) := box_cell B_r 3
                  have c_r_4 : ((((((((((w4.setCell ⟨g, 0, none⟩ (.slice (some ⟨g2, 0, none⟩) n d2)).setCell ⟨g, 1, none⟩ (.int .i64 (-1))).setCell ⟨g, 2, none⟩ (.int .i64 0)).setCell ⟨g, 3, none⟩ (.bool false)).setCell ⟨g, 4, none⟩ (.int .i64 0)).setCell ⟨(w.heap.size + 1 + 1), 0, none⟩ (.slice (some ⟨g2, 0, none⟩) n d2)).setCell ⟨(w.heap.size + 1 + 1), 1, none⟩ (.int .i64 (-1))).setCell ⟨(w.heap.size + 1 + 1), 2, none⟩ (.int .i64 0)).setCell ⟨(w.heap.size + 1 + 1), 3, none⟩ (.bool false)).setCell ⟨(w.heap.size + 1 + 1), 4, none⟩ (.int .i64 0)).cell? ⟨(w.heap.size + 1 + 1), 4, none⟩ = some (.int .i64 0) := box_cell B_r 4
                  go_wp2_with fail
                  exact bodyPost_ret (v := .tuple #[.agg #[.slice (some ⟨g2, 0, none⟩) n d2, .int .i64 (-1), .int .i64 0, .bool false, .int .i64 0], .bool true]) (by simp [results, Tryd.results14, go_sem, c_r_0, c_r_1, c_r_2, c_r_3, c_r_4]) rfl ⟨on, _, _, _, _, _, _, _, rfl, HN.out, HPV.out, row_mono HO.out (by omega), HG.out⟩
end Go.Proofs.YtlpgdcmohkacoaaDoor
