/- Contracts of the reference's copies of panels. No statement is proved here. -/
import Derived.Test.YtlpgdcmohkacoaaDoorPanC
import Derived.Test.YtlpgdcmohkacoaaDoorDrX
namespace Go.Proofs.YtlpgdcmohkacoaaDoor
open Go.RowKit

theorem info_bool : (Tryd.prog.info? 4).map (fun i => (i.zero, i.size, i.bytes)) = some (some (.bool false), 1, 1) := by kernel_rfl
theorem bools_one (xs : List Bool) : ∀ u ∈ bools xs, u.oneCell' = true := by
  intro u hu
  simp only [bools, List.mem_map] at hu
  obtain ⟨x, _, rfl⟩ := hu
  rfl
theorem bools_app (xs ys : List Bool) : bools xs ++ bools ys = bools (xs ++ ys) := by simp [bools]
def RetB (on : List Bool) (n : Nat) (w : World) (e : Ending) (w' : World) : Prop :=
  ∃ B c, e = .returned (.slice B n c) ∧ w'.ownsRow w.heap.size 4 1 (.slice B n c) n (bools on) ∧ Below w.heap.size w w'
set_option maxHeartbeats 400000 in
theorem copyB (A : Option Addr) (n c : Nat) (on : List Bool) (w : World) (hn : on.length = n) (hm : n ≤ 1048576) (hnil : A = none → n = 0 ∧ c = 0) (hA : Rd w A (bools on)) :
    Calls Tryd.prog 28 #[.slice A n c] w (RetB on n w) := by
  obtain ⟨i0, hi0, hz0, hz1, hz2⟩ := info_parts info_bool
  have HI := Lib.hid (And.intro hi0 (And.intro hz0 (And.intro hz1 hz2))); clear hi0 hz0 hz1 hz2
  have hlit : (w.alloc (.cells #[] 4)).ownsRow w.heap.size 4 1 (.slice (some ⟨w.heap.size, 0, none⟩) 0 0) 0 [] := World.ownsRow_lit w #[] 0 (Nat.le_refl _) (Nat.zero_le _) rfl
  have hrd : Rd (w.alloc (.cells #[] 4)) A (bools on) := hA.below (allocB (Below.refl _ _) _)
  have hb := allocB (Below.refl w.heap.size w) (.cells #[] 4)
  have hl : (bools on).length = n * 1 := by rw [bools_length, hn, Nat.mul_one]
  have HN := Lib.hid hn; clear hA hn
  go_enter Tryd.func28, Tryd.ntmps28
  go_wp2_with (at_builtin; refine wpList_appN _ rfl _ _ _ rfl w.heap.size 4 i0 _ 1 1 Tryd.underlying23 HI.out rfl (by omega) _ 0 _ rfl hlit A n c (bools on) rfl hl hrd hnil (bools_one on) (by omega) (by omega) hb.size ?_; intro v' w3 hown3 hg3)
  have hb3 := grown_row hb rfl hlit hg3
  obtain ⟨B3, d3, rfl, hr3⟩ := row_is (n' := n) (cs' := bools on) hown3 (by omega) (by simp)
  go_ret
  exact ⟨B3, d3, rfl, hr3, hb3⟩
/-- a panel with a row of its own -/
def RetP (on : List Bool) (n : Nat) (who i : Int) (tb : Bool) (left : Int) (w : World) (e : Ending) (w' : World) : Prop :=
  ∃ B c, e = .returned (.agg #[.slice B n c, .int .i64 who, .int .i64 i, .bool tb, .int .i64 left]) ∧ w'.ownsRow w.heap.size 4 1 (.slice B n c) n (bools on) ∧ Below w.heap.size w w'
theorem row_setP {w : World} {base n g j c : Nat} {u : Value} {E : TypeId} {size : Nat} {A : Option Addr} {cs : List Value} (hown : w.ownsRow base E size (.slice A n c) n cs) (hg : g < base) : (w.setCell ⟨g, j, none⟩ u).ownsRow base E size (.slice A n c) n cs := by
  refine hown.kept (set_grown w g j u) ?_
  cases hv : (Value.slice A n c).ownBlock with
  | none => exact .inl rfl
  | some k => exact .inr (by have := (hown.lt k hv).1; intro e; cases e; omega)
theorem row_mono {w : World} {base base' : Nat} {E : TypeId} {size n : Nat} {v : Value} {cs : List Value} (h : w.ownsRow base E size v n cs) (hb : base' ≤ base) : w.ownsRow base' E size v n cs := by
  obtain ⟨h1, h2⟩ := h
  refine ⟨h1, ?_⟩
  rcases h2 with ⟨e1, e2⟩ | ⟨g, cap, cur, e, hge, h3⟩
  · exact .inl ⟨e1, e2⟩
  · exact .inr ⟨g, cap, cur, e, Nat.le_trans hb hge, h3⟩
theorem row_cap {w : World} {base n c : Nat} {E : TypeId} {size : Nat} {B : Option Addr} {cs : List Value} (h : w.ownsRow base E size (.slice B n c) n cs) : n ≤ c := by
  rcases h.2 with ⟨e, rfl⟩ | ⟨g, cap, cur, e, hge, hg, hn, hr⟩
  · omega
  · cases e; exact hn
theorem row_none {w : World} {base n c : Nat} {E : TypeId} {size : Nat} {B : Option Addr} {cs : List Value} (h : w.ownsRow base E size (.slice B n c) n cs) : B = none → n = 0 ∧ c = 0 := by
  intro e
  rcases h.2 with ⟨e1, e2⟩ | ⟨g, cap, cur, e1, _⟩
  · cases e1; exact ⟨rfl, rfl⟩
  · cases e1; cases e
set_option maxHeartbeats 1000000 in
theorem clearP (A : Option Addr) (n c : Nat) (on : List Bool) (who i : Int) (tb : Bool) (left : Int) (w : World) (hn : on.length = n) (hm : n ≤ 1048576) (hnil : A = none → n = 0 ∧ c = 0) (hA : Rd w A (bools on)) :
    Calls Tryd.prog 24 #[.agg #[.slice A n c, .int .i64 who, .int .i64 i, .bool tb, .int .i64 left]] w (RetP on n (-1) 0 false 0 w) := by
  have HA := Lib.hid hA; have HN := Lib.hid hn; have HNIL := Lib.hid hnil; clear hA hn hnil
  have HG := Lib.hid (Below.refl w.heap.size w)
  go_enter Tryd.func24, Tryd.ntmps24
  have B_p := new_box w (.cells #[.slice A n c, .int .i64 who, .int .i64 i, .bool tb, .int .i64 left] 25)
  have Z_p : w.heap.size ≤ w.heap.size := by have := HG.out.size; first | omega | (simp at this; omega) | (simp at this ⊢; omega)
  replace HG := Lib.hid (allocB HG.out (.cells #[.slice A n c, .int .i64 who, .int .i64 i, .bool tb, .int .i64 left] 25))
  have M0_p := blk_lt B_p.out
  replace M0_p : w.heap.size < (w.heap.size + 1) := by first | (simp; done) | (simp; omega) | omega
  replace B_p := al_box B_p (.cells #[.slice none 0 0, .int .i64 0, .int .i64 0, .bool false, .int .i64 0] 25)
  have B_q := new_box (w.alloc (.cells #[.slice A n c, .int .i64 who, .int .i64 i, .bool tb, .int .i64 left] 25)) (.cells #[.slice none 0 0, .int .i64 0, .int .i64 0, .bool false, .int .i64 0] 25)
  replace B_q : Hid (((w.alloc (.cells #[.slice A n c, .int .i64 who, .int .i64 i, .bool tb, .int .i64 left] 25)).alloc (.cells #[.slice none 0 0, .int .i64 0, .int .i64 0, .bool false, .int .i64 0] 25)).heap[(w.heap.size + 1)]? = some (.cells #[.slice none 0 0, .int .i64 0, .int .i64 0, .bool false, .int .i64 0] 25 (0, 0))) := by have := B_q.out; rw [Hid]; simpa using this
  have Z_q : w.heap.size ≤ (w.heap.size + 1) := by have := HG.out.size; first | omega | (simp at this; omega) | (simp at this ⊢; omega)
  have M_p_q : w.heap.size < (w.heap.size + 1) := M0_p
  replace HG := Lib.hid (allocB HG.out (.cells #[.slice none 0 0, .int .i64 0, .int .i64 0, .bool false, .int .i64 0] 25))
  have c_p_0 : ((w.alloc (.cells #[.slice A n c, .int .i64 who, .int .i64 i, .bool tb, .int .i64 left] 25)).alloc (.cells #[.slice none 0 0, .int .i64 0, .int .i64 0, .bool false, .int .i64 0] 25)).cell? ⟨w.heap.size, 0, none⟩ = some (.slice A n c) := box_cell B_p 0
  have hra := HA.out.below HG.out
  go_wp2_with fail
  refine (copyB A n c on _ HN.out hm HNIL.out hra).mono ?_
  rintro e w1 ⟨B, d, rfl, hr, hbn⟩
  replace HG := Lib.hid (seqB HG.out hbn)
  have HO := Lib.hid hr
  clear hra hr
  replace B_p := be_box B_p hbn
  replace B_q := be_box B_q hbn
  clear hbn
  clear M0_p c_p_0
  clear HA
  replace HO := Lib.hid (row_setP (g := (w.heap.size + 1)) (j := 0) (u := .slice B n d) HO.out (by simp))
  have k_q_1 : w1.cell? ⟨(w.heap.size + 1), 0, none⟩ = some (.slice none 0 0) := box_cell B_q 0
  have y_q_1 : w1.frozen? ⟨(w.heap.size + 1), 0, none⟩ = false := box_free B_q 0
  replace B_p := st_box (g' := (w.heap.size + 1)) (j := 0) B_p (.slice B n d) (by omega)
  replace B_q := st_same B_q 0 (.slice B n d)
  replace HG := Lib.hid (be_set (g := (w.heap.size + 1)) (j := 0) (u := .slice B n d) HG.out  Z_q)
  replace B_q : Hid ((w1.setCell ⟨(w.heap.size + 1), 0, none⟩ (.slice B n d)).heap[(w.heap.size + 1)]? = some (.cells #[.slice B n d, .int .i64 0, .int .i64 0, .bool false, .int .i64 0] 25 (0, 0))) := B_q
  replace HO := Lib.hid (row_setP (g := (w.heap.size + 1)) (j := 1) (u := .int .i64 (-1)) HO.out (by simp))
  have k_q_2 : (w1.setCell ⟨(w.heap.size + 1), 0, none⟩ (.slice B n d)).cell? ⟨(w.heap.size + 1), 1, none⟩ = some (.int .i64 0) := box_cell B_q 1
  have y_q_2 : (w1.setCell ⟨(w.heap.size + 1), 0, none⟩ (.slice B n d)).frozen? ⟨(w.heap.size + 1), 1, none⟩ = false := box_free B_q 1
  replace B_p := st_box (g' := (w.heap.size + 1)) (j := 1) B_p (.int .i64 (-1)) (by omega)
  replace B_q := st_same B_q 1 (.int .i64 (-1))
  replace HG := Lib.hid (be_set (g := (w.heap.size + 1)) (j := 1) (u := .int .i64 (-1)) HG.out  Z_q)
  replace B_q : Hid (((w1.setCell ⟨(w.heap.size + 1), 0, none⟩ (.slice B n d)).setCell ⟨(w.heap.size + 1), 1, none⟩ (.int .i64 (-1))).heap[(w.heap.size + 1)]? = some (.cells #[.slice B n d, .int .i64 (-1), .int .i64 0, .bool false, .int .i64 0] 25 (0, 0))) := B_q
  replace HO := Lib.hid (row_setP (g := (w.heap.size + 1)) (j := 2) (u := .int .i64 0) HO.out (by simp))
  have k_q_3 : ((w1.setCell ⟨(w.heap.size + 1), 0, none⟩ (.slice B n d)).setCell ⟨(w.heap.size + 1), 1, none⟩ (.int .i64 (-1))).cell? ⟨(w.heap.size + 1), 2, none⟩ = some (.int .i64 0) := box_cell B_q 2
  have y_q_3 : ((w1.setCell ⟨(w.heap.size + 1), 0, none⟩ (.slice B n d)).setCell ⟨(w.heap.size + 1), 1, none⟩ (.int .i64 (-1))).frozen? ⟨(w.heap.size + 1), 2, none⟩ = false := box_free B_q 2
  replace B_p := st_box (g' := (w.heap.size + 1)) (j := 2) B_p (.int .i64 0) (by omega)
  replace B_q := st_same B_q 2 (.int .i64 0)
  replace HG := Lib.hid (be_set (g := (w.heap.size + 1)) (j := 2) (u := .int .i64 0) HG.out  Z_q)
  replace B_q : Hid ((((w1.setCell ⟨(w.heap.size + 1), 0, none⟩ (.slice B n d)).setCell ⟨(w.heap.size + 1), 1, none⟩ (.int .i64 (-1))).setCell ⟨(w.heap.size + 1), 2, none⟩ (.int .i64 0)).heap[(w.heap.size + 1)]? = some (.cells #[.slice B n d, .int .i64 (-1), .int .i64 0, .bool false, .int .i64 0] 25 (0, 0))) := B_q
  replace HO := Lib.hid (row_setP (g := (w.heap.size + 1)) (j := 3) (u := .bool false) HO.out (by simp))
  have k_q_4 : (((w1.setCell ⟨(w.heap.size + 1), 0, none⟩ (.slice B n d)).setCell ⟨(w.heap.size + 1), 1, none⟩ (.int .i64 (-1))).setCell ⟨(w.heap.size + 1), 2, none⟩ (.int .i64 0)).cell? ⟨(w.heap.size + 1), 3, none⟩ = some (.bool false) := box_cell B_q 3
  have y_q_4 : (((w1.setCell ⟨(w.heap.size + 1), 0, none⟩ (.slice B n d)).setCell ⟨(w.heap.size + 1), 1, none⟩ (.int .i64 (-1))).setCell ⟨(w.heap.size + 1), 2, none⟩ (.int .i64 0)).frozen? ⟨(w.heap.size + 1), 3, none⟩ = false := box_free B_q 3
  replace B_p := st_box (g' := (w.heap.size + 1)) (j := 3) B_p (.bool false) (by omega)
  replace B_q := st_same B_q 3 (.bool false)
  replace HG := Lib.hid (be_set (g := (w.heap.size + 1)) (j := 3) (u := .bool false) HG.out  Z_q)
  replace B_q : Hid (((((w1.setCell ⟨(w.heap.size + 1), 0, none⟩ (.slice B n d)).setCell ⟨(w.heap.size + 1), 1, none⟩ (.int .i64 (-1))).setCell ⟨(w.heap.size + 1), 2, none⟩ (.int .i64 0)).setCell ⟨(w.heap.size + 1), 3, none⟩ (.bool false)).heap[(w.heap.size + 1)]? = some (.cells #[.slice B n d, .int .i64 (-1), .int .i64 0, .bool false, .int .i64 0] 25 (0, 0))) := B_q
  replace HO := Lib.hid (row_setP (g := (w.heap.size + 1)) (j := 4) (u := .int .i64 0) HO.out (by simp))
  have k_q_5 : ((((w1.setCell ⟨(w.heap.size + 1), 0, none⟩ (.slice B n d)).setCell ⟨(w.heap.size + 1), 1, none⟩ (.int .i64 (-1))).setCell ⟨(w.heap.size + 1), 2, none⟩ (.int .i64 0)).setCell ⟨(w.heap.size + 1), 3, none⟩ (.bool false)).cell? ⟨(w.heap.size + 1), 4, none⟩ = some (.int .i64 0) := box_cell B_q 4
  have y_q_5 : ((((w1.setCell ⟨(w.heap.size + 1), 0, none⟩ (.slice B n d)).setCell ⟨(w.heap.size + 1), 1, none⟩ (.int .i64 (-1))).setCell ⟨(w.heap.size + 1), 2, none⟩ (.int .i64 0)).setCell ⟨(w.heap.size + 1), 3, none⟩ (.bool false)).frozen? ⟨(w.heap.size + 1), 4, none⟩ = false := box_free B_q 4
  replace B_p := st_box (g' := (w.heap.size + 1)) (j := 4) B_p (.int .i64 0) (by omega)
  replace B_q := st_same B_q 4 (.int .i64 0)
  replace HG := Lib.hid (be_set (g := (w.heap.size + 1)) (j := 4) (u := .int .i64 0) HG.out  Z_q)
  replace B_q : Hid ((((((w1.setCell ⟨(w.heap.size + 1), 0, none⟩ (.slice B n d)).setCell ⟨(w.heap.size + 1), 1, none⟩ (.int .i64 (-1))).setCell ⟨(w.heap.size + 1), 2, none⟩ (.int .i64 0)).setCell ⟨(w.heap.size + 1), 3, none⟩ (.bool false)).setCell ⟨(w.heap.size + 1), 4, none⟩ (.int .i64 0)).heap[(w.heap.size + 1)]? = some (.cells #[.slice B n d, .int .i64 (-1), .int .i64 0, .bool false, .int .i64 0] 25 (0, 0))) := B_q
  have c_q_0 : (((((w1.setCell ⟨(w.heap.size + 1), 0, none⟩ (.slice B n d)).setCell ⟨(w.heap.size + 1), 1, none⟩ (.int .i64 (-1))).setCell ⟨(w.heap.size + 1), 2, none⟩ (.int .i64 0)).setCell ⟨(w.heap.size + 1), 3, none⟩ (.bool false)).setCell ⟨(w.heap.size + 1), 4, none⟩ (.int .i64 0)).cell? ⟨(w.heap.size + 1), 0, none⟩ = some (.slice B n d) := box_cell B_q 0
  have c_q_1 : (((((w1.setCell ⟨(w.heap.size + 1), 0, none⟩ (.slice B n d)).setCell ⟨(w.heap.size + 1), 1, none⟩ (.int .i64 (-1))).setCell ⟨(w.heap.size + 1), 2, none⟩ (.int .i64 0)).setCell ⟨(w.heap.size + 1), 3, none⟩ (.bool false)).setCell ⟨(w.heap.size + 1), 4, none⟩ (.int .i64 0)).cell? ⟨(w.heap.size + 1), 1, none⟩ = some (.int .i64 (-1)) := box_cell B_q 1
  have c_q_2 : (((((w1.setCell ⟨(w.heap.size + 1), 0, none⟩ (.slice B n d)).setCell ⟨(w.heap.size + 1), 1, none⟩ (.int .i64 (-1))).setCell ⟨(w.heap.size + 1), 2, none⟩ (.int .i64 0)).setCell ⟨(w.heap.size + 1), 3, none⟩ (.bool false)).setCell ⟨(w.heap.size + 1), 4, none⟩ (.int .i64 0)).cell? ⟨(w.heap.size + 1), 2, none⟩ = some (.int .i64 0) := box_cell B_q 2
  have c_q_3 : (((((w1.setCell ⟨(w.heap.size + 1), 0, none⟩ (.slice B n d)).setCell ⟨(w.heap.size + 1), 1, none⟩ (.int .i64 (-1))).setCell ⟨(w.heap.size + 1), 2, none⟩ (.int .i64 0)).setCell ⟨(w.heap.size + 1), 3, none⟩ (.bool false)).setCell ⟨(w.heap.size + 1), 4, none⟩ (.int .i64 0)).cell? ⟨(w.heap.size + 1), 3, none⟩ = some (.bool false) := box_cell B_q 3
  have c_q_4 : (((((w1.setCell ⟨(w.heap.size + 1), 0, none⟩ (.slice B n d)).setCell ⟨(w.heap.size + 1), 1, none⟩ (.int .i64 (-1))).setCell ⟨(w.heap.size + 1), 2, none⟩ (.int .i64 0)).setCell ⟨(w.heap.size + 1), 3, none⟩ (.bool false)).setCell ⟨(w.heap.size + 1), 4, none⟩ (.int .i64 0)).cell? ⟨(w.heap.size + 1), 4, none⟩ = some (.int .i64 0) := box_cell B_q 4
  go_wp2_with fail
  exact bodyPost_ret (v := .agg #[.slice B n d, .int .i64 (-1), .int .i64 0, .bool false, .int .i64 0]) (by simp [results, Tryd.results24, go_sem, c_q_0, c_q_1, c_q_2, c_q_3, c_q_4]) rfl ⟨B, d, rfl, row_mono HO.out (by simp; omega), HG.out⟩
set_option maxHeartbeats 1000000 in
theorem copyP (A : Option Addr) (n c : Nat) (on : List Bool) (who i : Int) (tb : Bool) (left : Int) (w : World) (hn : on.length = n) (hm : n ≤ 1048576) (hnil : A = none → n = 0 ∧ c = 0) (hA : Rd w A (bools on)) :
    Calls Tryd.prog 23 #[.agg #[.slice A n c, .int .i64 who, .int .i64 i, .bool tb, .int .i64 left]] w (RetP on n who i tb left w) := by
  have HA := Lib.hid hA; have HN := Lib.hid hn; have HNIL := Lib.hid hnil; clear hA hn hnil
  have HG := Lib.hid (Below.refl w.heap.size w)
  go_enter Tryd.func23, Tryd.ntmps23
  have B_p := new_box w (.cells #[.slice A n c, .int .i64 who, .int .i64 i, .bool tb, .int .i64 left] 25)
  have Z_p : w.heap.size ≤ w.heap.size := by have := HG.out.size; first | omega | (simp at this; omega) | (simp at this ⊢; omega)
  replace HG := Lib.hid (allocB HG.out (.cells #[.slice A n c, .int .i64 who, .int .i64 i, .bool tb, .int .i64 left] 25))
  have M0_p := blk_lt B_p.out
  replace M0_p : w.heap.size < (w.heap.size + 1) := by first | (simp; done) | (simp; omega) | omega
  replace B_p := al_box B_p (.cells #[.slice none 0 0, .int .i64 0, .int .i64 0, .bool false, .int .i64 0] 25)
  have B_q := new_box (w.alloc (.cells #[.slice A n c, .int .i64 who, .int .i64 i, .bool tb, .int .i64 left] 25)) (.cells #[.slice none 0 0, .int .i64 0, .int .i64 0, .bool false, .int .i64 0] 25)
  replace B_q : Hid (((w.alloc (.cells #[.slice A n c, .int .i64 who, .int .i64 i, .bool tb, .int .i64 left] 25)).alloc (.cells #[.slice none 0 0, .int .i64 0, .int .i64 0, .bool false, .int .i64 0] 25)).heap[(w.heap.size + 1)]? = some (.cells #[.slice none 0 0, .int .i64 0, .int .i64 0, .bool false, .int .i64 0] 25 (0, 0))) := by have := B_q.out; rw [Hid]; simpa using this
  have Z_q : w.heap.size ≤ (w.heap.size + 1) := by have := HG.out.size; first | omega | (simp at this; omega) | (simp at this ⊢; omega)
  have M_p_q : w.heap.size < (w.heap.size + 1) := M0_p
  replace HG := Lib.hid (allocB HG.out (.cells #[.slice none 0 0, .int .i64 0, .int .i64 0, .bool false, .int .i64 0] 25))
  have M0_p := blk_lt B_p.out
  have M0_q := blk_lt B_q.out
  replace M0_p : w.heap.size < (w.heap.size + 1 + 1) := by first | (simp; done) | (simp; omega) | omega
  replace M0_q : (w.heap.size + 1) < (w.heap.size + 1 + 1) := by first | (simp; done) | (simp; omega) | omega
  replace B_p := al_box B_p (.cells #[.slice A n c, .int .i64 who, .int .i64 i, .bool tb, .int .i64 left] 25)
  replace B_q := al_box B_q (.cells #[.slice A n c, .int .i64 who, .int .i64 i, .bool tb, .int .i64 left] 25)
  have B_o := new_box ((w.alloc (.cells #[.slice A n c, .int .i64 who, .int .i64 i, .bool tb, .int .i64 left] 25)).alloc (.cells #[.slice none 0 0, .int .i64 0, .int .i64 0, .bool false, .int .i64 0] 25)) (.cells #[.slice A n c, .int .i64 who, .int .i64 i, .bool tb, .int .i64 left] 25)
  replace B_o : Hid ((((w.alloc (.cells #[.slice A n c, .int .i64 who, .int .i64 i, .bool tb, .int .i64 left] 25)).alloc (.cells #[.slice none 0 0, .int .i64 0, .int .i64 0, .bool false, .int .i64 0] 25)).alloc (.cells #[.slice A n c, .int .i64 who, .int .i64 i, .bool tb, .int .i64 left] 25)).heap[(w.heap.size + 1 + 1)]? = some (.cells #[.slice A n c, .int .i64 who, .int .i64 i, .bool tb, .int .i64 left] 25 (0, 0))) := by have := B_o.out; rw [Hid]; simpa using this
  have Z_o : w.heap.size ≤ (w.heap.size + 1 + 1) := by have := HG.out.size; first | omega | (simp at this; omega) | (simp at this ⊢; omega)
  have M_p_o : w.heap.size < (w.heap.size + 1 + 1) := M0_p
  have M_q_o : (w.heap.size + 1) < (w.heap.size + 1 + 1) := M0_q
  replace HG := Lib.hid (allocB HG.out (.cells #[.slice A n c, .int .i64 who, .int .i64 i, .bool tb, .int .i64 left] 25))
  have c_p_0 : (((w.alloc (.cells #[.slice A n c, .int .i64 who, .int .i64 i, .bool tb, .int .i64 left] 25)).alloc (.cells #[.slice none 0 0, .int .i64 0, .int .i64 0, .bool false, .int .i64 0] 25)).alloc (.cells #[.slice A n c, .int .i64 who, .int .i64 i, .bool tb, .int .i64 left] 25)).cell? ⟨w.heap.size, 0, none⟩ = some (.slice A n c) := box_cell B_p 0
  have hra := HA.out.below HG.out
  go_wp2_with fail
  refine (copyB A n c on _ HN.out hm HNIL.out hra).mono ?_
  rintro e w1 ⟨B, d, rfl, hr, hbn⟩
  replace HG := Lib.hid (seqB HG.out hbn)
  have HO := Lib.hid hr
  clear hra hr
  replace B_p := be_box B_p hbn
  replace B_q := be_box B_q hbn
  replace B_o := be_box B_o hbn
  clear hbn
  clear M0_p M0_q c_p_0
  clear HA
  replace HO := Lib.hid (row_setP (g := (w.heap.size + 1 + 1)) (j := 0) (u := .slice B n d) HO.out (by simp))
  have k_o_1 : w1.cell? ⟨(w.heap.size + 1 + 1), 0, none⟩ = some (.slice A n c) := box_cell B_o 0
  have y_o_1 : w1.frozen? ⟨(w.heap.size + 1 + 1), 0, none⟩ = false := box_free B_o 0
  replace B_p := st_box (g' := (w.heap.size + 1 + 1)) (j := 0) B_p (.slice B n d) (by omega)
  replace B_q := st_box (g' := (w.heap.size + 1 + 1)) (j := 0) B_q (.slice B n d) (by omega)
  replace B_o := st_same B_o 0 (.slice B n d)
  replace HG := Lib.hid (be_set (g := (w.heap.size + 1 + 1)) (j := 0) (u := .slice B n d) HG.out  Z_o)
  replace B_o : Hid ((w1.setCell ⟨(w.heap.size + 1 + 1), 0, none⟩ (.slice B n d)).heap[(w.heap.size + 1 + 1)]? = some (.cells #[.slice B n d, .int .i64 who, .int .i64 i, .bool tb, .int .i64 left] 25 (0, 0))) := B_o
  have c_o_0 : (w1.setCell ⟨(w.heap.size + 1 + 1), 0, none⟩ (.slice B n d)).cell? ⟨(w.heap.size + 1 + 1), 0, none⟩ = some (.slice B n d) := box_cell B_o 0
  have c_o_1 : (w1.setCell ⟨(w.heap.size + 1 + 1), 0, none⟩ (.slice B n d)).cell? ⟨(w.heap.size + 1 + 1), 1, none⟩ = some (.int .i64 who) := box_cell B_o 1
  have c_o_2 : (w1.setCell ⟨(w.heap.size + 1 + 1), 0, none⟩ (.slice B n d)).cell? ⟨(w.heap.size + 1 + 1), 2, none⟩ = some (.int .i64 i) := box_cell B_o 2
  have c_o_3 : (w1.setCell ⟨(w.heap.size + 1 + 1), 0, none⟩ (.slice B n d)).cell? ⟨(w.heap.size + 1 + 1), 3, none⟩ = some (.bool tb) := box_cell B_o 3
  have c_o_4 : (w1.setCell ⟨(w.heap.size + 1 + 1), 0, none⟩ (.slice B n d)).cell? ⟨(w.heap.size + 1 + 1), 4, none⟩ = some (.int .i64 left) := box_cell B_o 4
  replace HO := Lib.hid (row_setP (g := (w.heap.size + 1)) (j := 0) (u := .slice B n d) HO.out (by simp))
  have k_q_2 : (w1.setCell ⟨(w.heap.size + 1 + 1), 0, none⟩ (.slice B n d)).cell? ⟨(w.heap.size + 1), 0, none⟩ = some (.slice none 0 0) := box_cell B_q 0
  have y_q_2 : (w1.setCell ⟨(w.heap.size + 1 + 1), 0, none⟩ (.slice B n d)).frozen? ⟨(w.heap.size + 1), 0, none⟩ = false := box_free B_q 0
  replace B_p := st_box (g' := (w.heap.size + 1)) (j := 0) B_p (.slice B n d) (by omega)
  replace B_o := st_box (g' := (w.heap.size + 1)) (j := 0) B_o (.slice B n d) (by omega)
  replace B_q := st_same B_q 0 (.slice B n d)
  replace HG := Lib.hid (be_set (g := (w.heap.size + 1)) (j := 0) (u := .slice B n d) HG.out  Z_q)
  replace B_q : Hid (((w1.setCell ⟨(w.heap.size + 1 + 1), 0, none⟩ (.slice B n d)).setCell ⟨(w.heap.size + 1), 0, none⟩ (.slice B n d)).heap[(w.heap.size + 1)]? = some (.cells #[.slice B n d, .int .i64 0, .int .i64 0, .bool false, .int .i64 0] 25 (0, 0))) := B_q
  replace HO := Lib.hid (row_setP (g := (w.heap.size + 1)) (j := 1) (u := .int .i64 who) HO.out (by simp))
  have k_q_3 : ((w1.setCell ⟨(w.heap.size + 1 + 1), 0, none⟩ (.slice B n d)).setCell ⟨(w.heap.size + 1), 0, none⟩ (.slice B n d)).cell? ⟨(w.heap.size + 1), 1, none⟩ = some (.int .i64 0) := box_cell B_q 1
  have y_q_3 : ((w1.setCell ⟨(w.heap.size + 1 + 1), 0, none⟩ (.slice B n d)).setCell ⟨(w.heap.size + 1), 0, none⟩ (.slice B n d)).frozen? ⟨(w.heap.size + 1), 1, none⟩ = false := box_free B_q 1
  replace B_p := st_box (g' := (w.heap.size + 1)) (j := 1) B_p (.int .i64 who) (by omega)
  replace B_o := st_box (g' := (w.heap.size + 1)) (j := 1) B_o (.int .i64 who) (by omega)
  replace B_q := st_same B_q 1 (.int .i64 who)
  replace HG := Lib.hid (be_set (g := (w.heap.size + 1)) (j := 1) (u := .int .i64 who) HG.out  Z_q)
  replace B_q : Hid ((((w1.setCell ⟨(w.heap.size + 1 + 1), 0, none⟩ (.slice B n d)).setCell ⟨(w.heap.size + 1), 0, none⟩ (.slice B n d)).setCell ⟨(w.heap.size + 1), 1, none⟩ (.int .i64 who)).heap[(w.heap.size + 1)]? = some (.cells #[.slice B n d, .int .i64 who, .int .i64 0, .bool false, .int .i64 0] 25 (0, 0))) := B_q
  replace HO := Lib.hid (row_setP (g := (w.heap.size + 1)) (j := 2) (u := .int .i64 i) HO.out (by simp))
  have k_q_4 : (((w1.setCell ⟨(w.heap.size + 1 + 1), 0, none⟩ (.slice B n d)).setCell ⟨(w.heap.size + 1), 0, none⟩ (.slice B n d)).setCell ⟨(w.heap.size + 1), 1, none⟩ (.int .i64 who)).cell? ⟨(w.heap.size + 1), 2, none⟩ = some (.int .i64 0) := box_cell B_q 2
  have y_q_4 : (((w1.setCell ⟨(w.heap.size + 1 + 1), 0, none⟩ (.slice B n d)).setCell ⟨(w.heap.size + 1), 0, none⟩ (.slice B n d)).setCell ⟨(w.heap.size + 1), 1, none⟩ (.int .i64 who)).frozen? ⟨(w.heap.size + 1), 2, none⟩ = false := box_free B_q 2
  replace B_p := st_box (g' := (w.heap.size + 1)) (j := 2) B_p (.int .i64 i) (by omega)
  replace B_o := st_box (g' := (w.heap.size + 1)) (j := 2) B_o (.int .i64 i) (by omega)
  replace B_q := st_same B_q 2 (.int .i64 i)
  replace HG := Lib.hid (be_set (g := (w.heap.size + 1)) (j := 2) (u := .int .i64 i) HG.out  Z_q)
  replace B_q : Hid (((((w1.setCell ⟨(w.heap.size + 1 + 1), 0, none⟩ (.slice B n d)).setCell ⟨(w.heap.size + 1), 0, none⟩ (.slice B n d)).setCell ⟨(w.heap.size + 1), 1, none⟩ (.int .i64 who)).setCell ⟨(w.heap.size + 1), 2, none⟩ (.int .i64 i)).heap[(w.heap.size + 1)]? = some (.cells #[.slice B n d, .int .i64 who, .int .i64 i, .bool false, .int .i64 0] 25 (0, 0))) := B_q
  replace HO := Lib.hid (row_setP (g := (w.heap.size + 1)) (j := 3) (u := .bool tb) HO.out (by simp))
  have k_q_5 : ((((w1.setCell ⟨(w.heap.size + 1 + 1), 0, none⟩ (.slice B n d)).setCell ⟨(w.heap.size + 1), 0, none⟩ (.slice B n d)).setCell ⟨(w.heap.size + 1), 1, none⟩ (.int .i64 who)).setCell ⟨(w.heap.size + 1), 2, none⟩ (.int .i64 i)).cell? ⟨(w.heap.size + 1), 3, none⟩ = some (.bool false) := box_cell B_q 3
  have y_q_5 : ((((w1.setCell ⟨(w.heap.size + 1 + 1), 0, none⟩ (.slice B n d)).setCell ⟨(w.heap.size + 1), 0, none⟩ (.slice B n d)).setCell ⟨(w.heap.size + 1), 1, none⟩ (.int .i64 who)).setCell ⟨(w.heap.size + 1), 2, none⟩ (.int .i64 i)).frozen? ⟨(w.heap.size + 1), 3, none⟩ = false := box_free B_q 3
  replace B_p := st_box (g' := (w.heap.size + 1)) (j := 3) B_p (.bool tb) (by omega)
  replace B_o := st_box (g' := (w.heap.size + 1)) (j := 3) B_o (.bool tb) (by omega)
  replace B_q := st_same B_q 3 (.bool tb)
  replace HG := Lib.hid (be_set (g := (w.heap.size + 1)) (j := 3) (u := .bool tb) HG.out  Z_q)
  replace B_q : Hid ((((((w1.setCell ⟨(w.heap.size + 1 + 1), 0, none⟩ (.slice B n d)).setCell ⟨(w.heap.size + 1), 0, none⟩ (.slice B n d)).setCell ⟨(w.heap.size + 1), 1, none⟩ (.int .i64 who)).setCell ⟨(w.heap.size + 1), 2, none⟩ (.int .i64 i)).setCell ⟨(w.heap.size + 1), 3, none⟩ (.bool tb)).heap[(w.heap.size + 1)]? = some (.cells #[.slice B n d, .int .i64 who, .int .i64 i, .bool tb, .int .i64 0] 25 (0, 0))) := B_q
  replace HO := Lib.hid (row_setP (g := (w.heap.size + 1)) (j := 4) (u := .int .i64 left) HO.out (by simp))
  have k_q_6 : (((((w1.setCell ⟨(w.heap.size + 1 + 1), 0, none⟩ (.slice B n d)).setCell ⟨(w.heap.size + 1), 0, none⟩ (.slice B n d)).setCell ⟨(w.heap.size + 1), 1, none⟩ (.int .i64 who)).setCell ⟨(w.heap.size + 1), 2, none⟩ (.int .i64 i)).setCell ⟨(w.heap.size + 1), 3, none⟩ (.bool tb)).cell? ⟨(w.heap.size + 1), 4, none⟩ = some (.int .i64 0) := box_cell B_q 4
  have y_q_6 : (((((w1.setCell ⟨(w.heap.size + 1 + 1), 0, none⟩ (.slice B n d)).setCell ⟨(w.heap.size + 1), 0, none⟩ (.slice B n d)).setCell ⟨(w.heap.size + 1), 1, none⟩ (.int .i64 who)).setCell ⟨(w.heap.size + 1), 2, none⟩ (.int .i64 i)).setCell ⟨(w.heap.size + 1), 3, none⟩ (.bool tb)).frozen? ⟨(w.heap.size + 1), 4, none⟩ = false := box_free B_q 4
  replace B_p := st_box (g' := (w.heap.size + 1)) (j := 4) B_p (.int .i64 left) (by omega)
  replace B_o := st_box (g' := (w.heap.size + 1)) (j := 4) B_o (.int .i64 left) (by omega)
  replace B_q := st_same B_q 4 (.int .i64 left)
  replace HG := Lib.hid (be_set (g := (w.heap.size + 1)) (j := 4) (u := .int .i64 left) HG.out  Z_q)
  replace B_q : Hid (((((((w1.setCell ⟨(w.heap.size + 1 + 1), 0, none⟩ (.slice B n d)).setCell ⟨(w.heap.size + 1), 0, none⟩ (.slice B n d)).setCell ⟨(w.heap.size + 1), 1, none⟩ (.int .i64 who)).setCell ⟨(w.heap.size + 1), 2, none⟩ (.int .i64 i)).setCell ⟨(w.heap.size + 1), 3, none⟩ (.bool tb)).setCell ⟨(w.heap.size + 1), 4, none⟩ (.int .i64 left)).heap[(w.heap.size + 1)]? = some (.cells #[.slice B n d, .int .i64 who, .int .i64 i, .bool tb, .int .i64 left] 25 (0, 0))) := B_q
  have c_q_0 : ((((((w1.setCell ⟨(w.heap.size + 1 + 1), 0, none⟩ (.slice B n d)).setCell ⟨(w.heap.size + 1), 0, none⟩ (.slice B n d)).setCell ⟨(w.heap.size + 1), 1, none⟩ (.int .i64 who)).setCell ⟨(w.heap.size + 1), 2, none⟩ (.int .i64 i)).setCell ⟨(w.heap.size + 1), 3, none⟩ (.bool tb)).setCell ⟨(w.heap.size + 1), 4, none⟩ (.int .i64 left)).cell? ⟨(w.heap.size + 1), 0, none⟩ = some (.slice B n d) := box_cell B_q 0
  have c_q_1 : ((((((w1.setCell ⟨(w.heap.size + 1 + 1), 0, none⟩ (.slice B n d)).setCell ⟨(w.heap.size + 1), 0, none⟩ (.slice B n d)).setCell ⟨(w.heap.size + 1), 1, none⟩ (.int .i64 who)).setCell ⟨(w.heap.size + 1), 2, none⟩ (.int .i64 i)).setCell ⟨(w.heap.size + 1), 3, none⟩ (.bool tb)).setCell ⟨(w.heap.size + 1), 4, none⟩ (.int .i64 left)).cell? ⟨(w.heap.size + 1), 1, none⟩ = some (.int .i64 who) := box_cell B_q 1
  have c_q_2 : ((((((w1.setCell ⟨(w.heap.size + 1 + 1), 0, none⟩ (.slice B n d)).setCell ⟨(w.heap.size + 1), 0, none⟩ (.slice B n d)).setCell ⟨(w.heap.size + 1), 1, none⟩ (.int .i64 who)).setCell ⟨(w.heap.size + 1), 2, none⟩ (.int .i64 i)).setCell ⟨(w.heap.size + 1), 3, none⟩ (.bool tb)).setCell ⟨(w.heap.size + 1), 4, none⟩ (.int .i64 left)).cell? ⟨(w.heap.size + 1), 2, none⟩ = some (.int .i64 i) := box_cell B_q 2
  have c_q_3 : ((((((w1.setCell ⟨(w.heap.size + 1 + 1), 0, none⟩ (.slice B n d)).setCell ⟨(w.heap.size + 1), 0, none⟩ (.slice B n d)).setCell ⟨(w.heap.size + 1), 1, none⟩ (.int .i64 who)).setCell ⟨(w.heap.size + 1), 2, none⟩ (.int .i64 i)).setCell ⟨(w.heap.size + 1), 3, none⟩ (.bool tb)).setCell ⟨(w.heap.size + 1), 4, none⟩ (.int .i64 left)).cell? ⟨(w.heap.size + 1), 3, none⟩ = some (.bool tb) := box_cell B_q 3
  have c_q_4 : ((((((w1.setCell ⟨(w.heap.size + 1 + 1), 0, none⟩ (.slice B n d)).setCell ⟨(w.heap.size + 1), 0, none⟩ (.slice B n d)).setCell ⟨(w.heap.size + 1), 1, none⟩ (.int .i64 who)).setCell ⟨(w.heap.size + 1), 2, none⟩ (.int .i64 i)).setCell ⟨(w.heap.size + 1), 3, none⟩ (.bool tb)).setCell ⟨(w.heap.size + 1), 4, none⟩ (.int .i64 left)).cell? ⟨(w.heap.size + 1), 4, none⟩ = some (.int .i64 left) := box_cell B_q 4
  go_wp2_with fail
  exact bodyPost_ret (v := .agg #[.slice B n d, .int .i64 who, .int .i64 i, .bool tb, .int .i64 left]) (by simp [results, Tryd.results23, go_sem, c_q_0, c_q_1, c_q_2, c_q_3, c_q_4]) rfl ⟨B, d, rfl, row_mono HO.out (by simp; omega), HG.out⟩
end Go.Proofs.YtlpgdcmohkacoaaDoor
