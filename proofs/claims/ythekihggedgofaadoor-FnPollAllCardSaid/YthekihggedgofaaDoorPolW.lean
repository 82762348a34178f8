/- Slices of ints of a function's own, perhaps with an offset; the contract of l27Copy. No statement is proved here. -/
import Derived.Test.YthekihggedgofaaDoorPolE
import Derived.Deep.CutRange
namespace Go.Proofs.YthekihggedgofaaDoor
open Go.RowKit

theorem row_setQ {w : World} {base n g j : Nat} {u : Value} {E : TypeId} {size : Nat} {v : Value} {cs : List Value} (hown : w.ownsRow base E size v n cs) (hg : g < base) : (w.setCell ⟨g, j, none⟩ u).ownsRow base E size v n cs := by
  refine hown.kept (set_grown w g j u) ?_
  cases hv : v.ownBlock with
  | none => exact .inl rfl
  | some k => right; have := hown.lt k hv; simp; omega
def Apt (A1 A3 : Option Addr) : Prop := ∀ a b, A1 = some a → A3 = some b → a.block ≠ b.block
/-- a slice whose block is one of ints, from base on; perhaps with an offset -/
def Off (w : World) (base : Nat) (A : Option Addr) (n c : Nat) (cs : List Value) : Prop :=
  cs.length = n ∧ ((A = none ∧ n = 0 ∧ c = 0) ∨ ∃ g o cur, A = some ⟨g, o, none⟩ ∧ base ≤ g ∧ w.heap[g]? = some (.cells cur 3 (0, 0)) ∧ n ≤ c ∧ o + c ≤ cur.size ∧ (cur.toList.drop o).take n = cs)
theorem off_row {w : World} {base n c : Nat} {A : Option Addr} {cs : List Value} (h : w.ownsRow base 3 1 (.slice A n c) n cs) : Off w base A n c cs := by
  refine ⟨by have := h.1; omega, ?_⟩
  rcases h.2 with ⟨e, _⟩ | ⟨g, cap, cur, e, hge, hg, hn, hm, hz, ht⟩
  · cases e; exact .inl ⟨rfl, rfl, rfl⟩
  · cases e; exact .inr ⟨g, 0, cur, rfl, hge, hg, hn, by omega, by simpa using ht⟩
theorem Off.nil {w : World} {base n c : Nat} {A : Option Addr} {cs : List Value} (h : Off w base A n c cs) : A = none → n = 0 ∧ c = 0 := by
  rintro rfl
  rcases h.2 with ⟨_, h1, h2⟩ | ⟨g, o, cur, e, _⟩
  · exact ⟨h1, h2⟩
  · cases e
theorem Off.rd {w : World} {base n c : Nat} {A : Option Addr} {cs : List Value} (h : Off w base A n c cs) : Rd w A cs := by
  intro h0
  rcases h.2 with ⟨_, h1, _⟩ | ⟨g, o, cur, rfl, hge, hg, hn, hz, ht⟩
  · have := h.1; omega
  · refine ⟨g, o, rfl, blk_inP hg, fun k u hu => ?_⟩
    rw [cell_of_row w g (o + k) cur 3 (0, 0) hg]
    rw [← ht] at hu
    rw [List.getElem?_take, List.getElem?_drop] at hu
    split at hu
    · simpa using hu
    · cases hu
theorem Off.kept {w w' : World} {base n c : Nat} {A : Option Addr} {cs : List Value} {row : Option Nat} (h : Off w base A n c cs) (hg : w.grownBy w' row) (hne : ∀ a, A = some a → row ≠ some a.block) : Off w' base A n c cs := by
  refine ⟨h.1, ?_⟩
  rcases h.2 with h1 | ⟨g, o, cur, rfl, hge, hh, rest⟩
  · exact .inl h1
  · exact .inr ⟨g, o, cur, rfl, hge, (hg.block g (blk_inP hh) (fun e => hne _ rfl e.symm)).trans hh, rest⟩
theorem Off.ge {w : World} {base n c : Nat} {A : Option Addr} {cs : List Value} (h : Off w base A n c cs) : ∀ a, A = some a → base ≤ a.block ∧ a.block < w.heap.size := by
  rintro a rfl
  rcases h.2 with ⟨e, _⟩ | ⟨g, o, cur, e, hge, hh, _⟩
  · cases e
  · cases e; exact ⟨hge, blk_inP hh⟩
theorem Off.below {w w' : World} {base n c : Nat} {A : Option Addr} {cs : List Value} (h : Off w base A n c cs) (hb : Below w.heap.size w w') : Off w' base A n c cs :=
  h.kept (grown_of_below (R := w.heap.size) hb) (fun a e => by have := (h.ge a e).2; simp; omega)
theorem Off.set {w : World} {base n c g j : Nat} {u : Value} {A : Option Addr} {cs : List Value} (h : Off w base A n c cs) (hg : g < base) : Off (w.setCell ⟨g, j, none⟩ u) base A n c cs :=
  h.kept (set_grown w g j u) (fun a e => by have := (h.ge a e).1; simp; omega)
theorem Off.setN {w : World} {base n c g j : Nat} {u : Value} {A : Option Addr} {cs : List Value} (h : Off w base A n c cs) (hg : w.heap.size ≤ g ∨ ∀ a, A = some a → a.block ≠ g) : Off (w.setCell ⟨g, j, none⟩ u) base A n c cs :=
  h.kept (set_grown w g j u) (fun a e => by rcases hg with hg | hg; (· have := (h.ge a e).2; simp; omega); (· have := hg a e; simp; omega))
theorem Off.dr {w w' : World} {base n c R : Nat} {A : Option Addr} {cs : List Value} (h : Off w base A n c cs) (hg : w.grownBy w' (some R)) (hR : R < base) : Off w' base A n c cs :=
  h.kept hg (fun a e => by have := (h.ge a e).1; simp; omega)
theorem Off.alloc {w : World} {base n c : Nat} {A : Option Addr} {cs : List Value} (h : Off w base A n c cs) (o : Obj) : Off (w.alloc o) base A n c cs := h.below (allocB (Below.refl _ _) o)
theorem Off.mono {w : World} {base b n c : Nat} {A : Option Addr} {cs : List Value} (h : Off w base A n c cs) (hb : b ≤ base) : Off w b A n c cs := by
  refine ⟨h.1, ?_⟩
  rcases h.2 with h1 | ⟨g, o, cur, e, hge, rest⟩
  · exact .inl h1
  · exact .inr ⟨g, o, cur, e, Nat.le_trans hb hge, rest⟩
/-- a poll with lists of its own -/
def RetCp (M : Int) (n1 : Nat) (G : List Int) (S : Int) (n3 : Nat) (Q : List Int) (L K T E : Int) (w : World) (e : Ending) (w' : World) : Prop :=
  ∃ B1 d1 B3 d3, e = .returned (.agg #[.int .i64 M, .slice B1 n1 d1, .int .i64 S, .slice B3 n3 d3, .int .i64 L, .int .i64 K, .int .i64 T, .int .i64 E]) ∧ w'.ownsRow w.heap.size 3 1 (.slice B1 n1 d1) n1 (ints G) ∧ w'.ownsRow w.heap.size 3 1 (.slice B3 n3 d3) n3 (ints Q) ∧ Apt B1 B3 ∧ Below w.heap.size w w'
set_option maxRecDepth 100000 in
set_option maxHeartbeats 4000000 in
theorem copyC (M : Int) (A1 : Option Addr) (n1 c1 : Nat) (G : List Int) (S : Int) (A3 : Option Addr) (n3 c3 : Nat) (Q : List Int) (L K T E : Int) (w : World) (hn1 : G.length = n1) (hm1 : n1 ≤ 1048576) (hA1 : Rd w A1 (ints G)) (hn3 : Q.length = n3) (hm3 : n3 ≤ 1048576) (hA3 : Rd w A3 (ints Q)) (hz1 : A1 = none → n1 = 0 ∧ c1 = 0) (hz3 : A3 = none → n3 = 0 ∧ c3 = 0) :
    Calls Tryd.prog 36 #[.agg #[.int .i64 M, .slice A1 n1 c1, .int .i64 S, .slice A3 n3 c3, .int .i64 L, .int .i64 K, .int .i64 T, .int .i64 E]] w (RetCp M n1 G S n3 Q L K T E w) := by
  have HA1 := Lib.hid hA1; have HA3 := Lib.hid hA3; clear hA1 hA3
  have HN1 : Hid ((ints G).length = n1 * 1) := by rw [Hid, ints_length, hn1, Nat.mul_one]
  have HN3 : Hid ((ints Q).length = n3 * 1) := by rw [Hid, ints_length, hn3, Nat.mul_one]
  have HZ1 := Lib.hid hz1; have HZ3 := Lib.hid hz3; clear hz1 hz3 hn1 hn3
  obtain ⟨i0, hi0, hq0, hq1, hq2⟩ := info_parts info_int
  have HI := Lib.hid (And.intro hi0 (And.intro hq0 (And.intro hq1 hq2))); clear hi0 hq0 hq1 hq2
  have HG := Lib.hid (Below.refl w.heap.size w)
  go_enter Tryd.func36, Tryd.ntmps36
  have B_p := new_box w (.cells #[.int .i64 M, .slice A1 n1 c1, .int .i64 S, .slice A3 n3 c3, .int .i64 L, .int .i64 K, .int .i64 T, .int .i64 E] 25)
  have Z_p : w.heap.size ≤ w.heap.size := by have := HG.out.size; first | omega | (simp at this; omega) | (simp at this ⊢; omega)
  replace HG := Lib.hid (allocB HG.out (.cells #[.int .i64 M, .slice A1 n1 c1, .int .i64 S, .slice A3 n3 c3, .int .i64 L, .int .i64 K, .int .i64 T, .int .i64 E] 25))
  have M0_p := blk_lt B_p.out
  replace M0_p : w.heap.size < (w.heap.size + 1) := by first | (simp; done) | (simp; omega) | omega
  replace B_p := al_box B_p (.cells #[.int .i64 0, .slice none 0 0, .int .i64 0, .slice none 0 0, .int .i64 0, .int .i64 0, .int .i64 0, .int .i64 0] 25)
  have B_r := new_box (w.alloc (.cells #[.int .i64 M, .slice A1 n1 c1, .int .i64 S, .slice A3 n3 c3, .int .i64 L, .int .i64 K, .int .i64 T, .int .i64 E] 25)) (.cells #[.int .i64 0, .slice none 0 0, .int .i64 0, .slice none 0 0, .int .i64 0, .int .i64 0, .int .i64 0, .int .i64 0] 25)
  replace B_r : Hid (((w.alloc (.cells #[.int .i64 M, .slice A1 n1 c1, .int .i64 S, .slice A3 n3 c3, .int .i64 L, .int .i64 K, .int .i64 T, .int .i64 E] 25)).alloc (.cells #[.int .i64 0, .slice none 0 0, .int .i64 0, .slice none 0 0, .int .i64 0, .int .i64 0, .int .i64 0, .int .i64 0] 25)).heap[(w.heap.size + 1)]? = some (.cells #[.int .i64 0, .slice none 0 0, .int .i64 0, .slice none 0 0, .int .i64 0, .int .i64 0, .int .i64 0, .int .i64 0] 25 (0, 0))) := by have := B_r.out; rw [Hid]; simpa using this
  have Z_r : w.heap.size ≤ (w.heap.size + 1) := by have := HG.out.size; first | omega | (simp at this; omega) | (simp at this ⊢; omega)
  have M_p_r : w.heap.size < (w.heap.size + 1) := M0_p
  replace HG := Lib.hid (allocB HG.out (.cells #[.int .i64 0, .slice none 0 0, .int .i64 0, .slice none 0 0, .int .i64 0, .int .i64 0, .int .i64 0, .int .i64 0] 25))
  have M0_p := blk_lt B_p.out
  have M0_r := blk_lt B_r.out
  replace M0_p : w.heap.size < (w.heap.size + 1 + 1) := by first | (simp; done) | (simp; omega) | omega
  replace M0_r : (w.heap.size + 1) < (w.heap.size + 1 + 1) := by first | (simp; done) | (simp; omega) | omega
  replace B_p := al_box B_p (.cells #[.int .i64 M, .slice A1 n1 c1, .int .i64 S, .slice A3 n3 c3, .int .i64 L, .int .i64 K, .int .i64 T, .int .i64 E] 25)
  replace B_r := al_box B_r (.cells #[.int .i64 M, .slice A1 n1 c1, .int .i64 S, .slice A3 n3 c3, .int .i64 L, .int .i64 K, .int .i64 T, .int .i64 E] 25)
  have B_o := new_box ((w.alloc (.cells #[.int .i64 M, .slice A1 n1 c1, .int .i64 S, .slice A3 n3 c3, .int .i64 L, .int .i64 K, .int .i64 T, .int .i64 E] 25)).alloc (.cells #[.int .i64 0, .slice none 0 0, .int .i64 0, .slice none 0 0, .int .i64 0, .int .i64 0, .int .i64 0, .int .i64 0] 25)) (.cells #[.int .i64 M, .slice A1 n1 c1, .int .i64 S, .slice A3 n3 c3, .int .i64 L, .int .i64 K, .int .i64 T, .int .i64 E] 25)
  replace B_o : Hid ((((w.alloc (.cells #[.int .i64 M, .slice A1 n1 c1, .int .i64 S, .slice A3 n3 c3, .int .i64 L, .int .i64 K, .int .i64 T, .int .i64 E] 25)).alloc (.cells #[.int .i64 0, .slice none 0 0, .int .i64 0, .slice none 0 0, .int .i64 0, .int .i64 0, .int .i64 0, .int .i64 0] 25)).alloc (.cells #[.int .i64 M, .slice A1 n1 c1, .int .i64 S, .slice A3 n3 c3, .int .i64 L, .int .i64 K, .int .i64 T, .int .i64 E] 25)).heap[(w.heap.size + 1 + 1)]? = some (.cells #[.int .i64 M, .slice A1 n1 c1, .int .i64 S, .slice A3 n3 c3, .int .i64 L, .int .i64 K, .int .i64 T, .int .i64 E] 25 (0, 0))) := by have := B_o.out; rw [Hid]; simpa using this
  have Z_o : w.heap.size ≤ (w.heap.size + 1 + 1) := by have := HG.out.size; first | omega | (simp at this; omega) | (simp at this ⊢; omega)
  have M_p_o : w.heap.size < (w.heap.size + 1 + 1) := M0_p
  have M_r_o : (w.heap.size + 1) < (w.heap.size + 1 + 1) := M0_r
  replace HG := Lib.hid (allocB HG.out (.cells #[.int .i64 M, .slice A1 n1 c1, .int .i64 S, .slice A3 n3 c3, .int .i64 L, .int .i64 K, .int .i64 T, .int .i64 E] 25))
  have c_p_1 : (((w.alloc (.cells #[.int .i64 M, .slice A1 n1 c1, .int .i64 S, .slice A3 n3 c3, .int .i64 L, .int .i64 K, .int .i64 T, .int .i64 E] 25)).alloc (.cells #[.int .i64 0, .slice none 0 0, .int .i64 0, .slice none 0 0, .int .i64 0, .int .i64 0, .int .i64 0, .int .i64 0] 25)).alloc (.cells #[.int .i64 M, .slice A1 n1 c1, .int .i64 S, .slice A3 n3 c3, .int .i64 L, .int .i64 K, .int .i64 T, .int .i64 E] 25)).cell? ⟨w.heap.size, 1, none⟩ = some (.slice A1 n1 c1) := box_cell B_p 1
  have c_o_1 : (((w.alloc (.cells #[.int .i64 M, .slice A1 n1 c1, .int .i64 S, .slice A3 n3 c3, .int .i64 L, .int .i64 K, .int .i64 T, .int .i64 E] 25)).alloc (.cells #[.int .i64 0, .slice none 0 0, .int .i64 0, .slice none 0 0, .int .i64 0, .int .i64 0, .int .i64 0, .int .i64 0] 25)).alloc (.cells #[.int .i64 M, .slice A1 n1 c1, .int .i64 S, .slice A3 n3 c3, .int .i64 L, .int .i64 K, .int .i64 T, .int .i64 E] 25)).cell? ⟨(w.heap.size + 1 + 1), 1, none⟩ = some (.slice A1 n1 c1) := box_cell B_o 1
  have hE : (((w.alloc (.cells #[.int .i64 M, .slice A1 n1 c1, .int .i64 S, .slice A3 n3 c3, .int .i64 L, .int .i64 K, .int .i64 T, .int .i64 E] 25)).alloc (.cells #[.int .i64 0, .slice none 0 0, .int .i64 0, .slice none 0 0, .int .i64 0, .int .i64 0, .int .i64 0, .int .i64 0] 25)).alloc (.cells #[.int .i64 M, .slice A1 n1 c1, .int .i64 S, .slice A3 n3 c3, .int .i64 L, .int .i64 K, .int .i64 T, .int .i64 E] 25)).heap.size = (w.heap.size + 1 + 1 + 1) := by simp
  have hlit : Hid (((((w.alloc (.cells #[.int .i64 M, .slice A1 n1 c1, .int .i64 S, .slice A3 n3 c3, .int .i64 L, .int .i64 K, .int .i64 T, .int .i64 E] 25)).alloc (.cells #[.int .i64 0, .slice none 0 0, .int .i64 0, .slice none 0 0, .int .i64 0, .int .i64 0, .int .i64 0, .int .i64 0] 25)).alloc (.cells #[.int .i64 M, .slice A1 n1 c1, .int .i64 S, .slice A3 n3 c3, .int .i64 L, .int .i64 K, .int .i64 T, .int .i64 E] 25)).alloc (.cells #[] 3)).ownsRow (w.heap.size + 1 + 1 + 1) 3 1 (.slice (some ⟨(w.heap.size + 1 + 1 + 1), 0, none⟩) 0 0) 0 []) := by rw [Hid, ← hE]; exact World.ownsRow_lit (((w.alloc (.cells #[.int .i64 M, .slice A1 n1 c1, .int .i64 S, .slice A3 n3 c3, .int .i64 L, .int .i64 K, .int .i64 T, .int .i64 E] 25)).alloc (.cells #[.int .i64 0, .slice none 0 0, .int .i64 0, .slice none 0 0, .int .i64 0, .int .i64 0, .int .i64 0, .int .i64 0] 25)).alloc (.cells #[.int .i64 M, .slice A1 n1 c1, .int .i64 S, .slice A3 n3 c3, .int .i64 L, .int .i64 K, .int .i64 T, .int .i64 E] 25)) #[] 0 (Nat.le_refl _) (Nat.zero_le _) rfl
  have hgl := Lib.hid (allocB HG.out (.cells #[] 3))
  have hrd := Lib.hid (HA1.out.below hgl.out)
  have hzo : w.heap.size + 1 + 1 < (w.heap.size + 1 + 1 + 1) := by first | omega | (have hz9 := blk_lt B_o.out; simp at hz9; omega)
  have hbb : (w.heap.size + 1 + 1 + 1) ≤ ((((w.alloc (.cells #[.int .i64 M, .slice A1 n1 c1, .int .i64 S, .slice A3 n3 c3, .int .i64 L, .int .i64 K, .int .i64 T, .int .i64 E] 25)).alloc (.cells #[.int .i64 0, .slice none 0 0, .int .i64 0, .slice none 0 0, .int .i64 0, .int .i64 0, .int .i64 0, .int .i64 0] 25)).alloc (.cells #[.int .i64 M, .slice A1 n1 c1, .int .i64 S, .slice A3 n3 c3, .int .i64 L, .int .i64 K, .int .i64 T, .int .i64 E] 25)).alloc (.cells #[] 3)).heap.size := by rw [← hE]; simp
  clear hE
  have L_p := al_box B_p (.cells #[] 3)
  have L_r := al_box B_r (.cells #[] 3)
  have L_o := al_box B_o (.cells #[] 3)
  have l0 := box_cell L_p 1; simp at l0
  go_upto_region 3 with (at_builtin; refine wpList_appN _ rfl _ _ _ rfl ((w.heap.size + 1 + 1 + 1)) 3 i0 _ 1 8 Tryd.underlying23 HI.out rfl Nat.one_pos _ 0 [] rfl hlit.out A1 n1 c1 (ints G) rfl HN1.out hrd.out HZ1.out (ints_one G) (by omega) (by omega) hbb ?_; intro v' wa hown3 hg3; have K_p := rowboxP hlit.out hg3 (by omega) L_p; have K_r := rowboxP hlit.out hg3 (by omega) L_r; have K_o := rowboxP hlit.out hg3 (by omega) L_o; have hG3 := Lib.hid (grown_geP hgl.out (by omega) hlit.out hg3); obtain ⟨B1, d1, rfl, hnew⟩ := row_is (n' := n1) (cs' := ints G) hown3 (by omega) (by simp); have q0 := box_cell K_o 1; have q1 := box_free K_o 1; simp at q0; have hsw := hg3.size; clear hown3 hg3)
  replace B_p := K_p
  replace B_r := K_r
  replace B_o := K_o
  replace HG := hG3
  clear L_p K_p L_r K_r L_o K_o
  clear hlit hgl hrd hbb hG3 l0 q0 q1
  clear M0_p M0_r c_p_1 c_o_1
  have HO1 := Lib.hid (row_setQ (g := (w.heap.size + 1 + 1)) (j := 1) (u := .slice B1 n1 d1) hnew (by omega))
  clear hnew
  have k_o_1 : wa.cell? ⟨(w.heap.size + 1 + 1), 1, none⟩ = some (.slice A1 n1 c1) := box_cell B_o 1
  have y_o_1 : wa.frozen? ⟨(w.heap.size + 1 + 1), 1, none⟩ = false := box_free B_o 1
  replace B_p := st_box (g' := (w.heap.size + 1 + 1)) (j := 1) B_p (.slice B1 n1 d1) (by omega)
  replace B_r := st_box (g' := (w.heap.size + 1 + 1)) (j := 1) B_r (.slice B1 n1 d1) (by omega)
  replace B_o := st_same B_o 1 (.slice B1 n1 d1)
  replace HG := Lib.hid (be_set (g := (w.heap.size + 1 + 1)) (j := 1) (u := .slice B1 n1 d1) HG.out  Z_o)
  replace B_o : Hid ((wa.setCell ⟨(w.heap.size + 1 + 1), 1, none⟩ (.slice B1 n1 d1)).heap[(w.heap.size + 1 + 1)]? = some (.cells #[.int .i64 M, .slice B1 n1 d1, .int .i64 S, .slice A3 n3 c3, .int .i64 L, .int .i64 K, .int .i64 T, .int .i64 E] 25 (0, 0))) := B_o
  have HB1 : Hid (∀ k, (Value.slice B1 n1 d1).ownBlock = some k → k < wa.heap.size) := fun k e => by have := (HO1.out.lt k e).2; simpa using this
  have c_p_3 : (wa.setCell ⟨(w.heap.size + 1 + 1), 1, none⟩ (.slice B1 n1 d1)).cell? ⟨w.heap.size, 3, none⟩ = some (.slice A3 n3 c3) := box_cell B_p 3
  have c_o_3 : (wa.setCell ⟨(w.heap.size + 1 + 1), 1, none⟩ (.slice B1 n1 d1)).cell? ⟨(w.heap.size + 1 + 1), 3, none⟩ = some (.slice A3 n3 c3) := box_cell B_o 3
  have hE : (wa.setCell ⟨(w.heap.size + 1 + 1), 1, none⟩ (.slice B1 n1 d1)).heap.size = wa.heap.size := by simp
  have hlit : Hid (((wa.setCell ⟨(w.heap.size + 1 + 1), 1, none⟩ (.slice B1 n1 d1)).alloc (.cells #[] 3)).ownsRow wa.heap.size 3 1 (.slice (some ⟨wa.heap.size, 0, none⟩) 0 0) 0 []) := by rw [Hid, ← hE]; exact World.ownsRow_lit (wa.setCell ⟨(w.heap.size + 1 + 1), 1, none⟩ (.slice B1 n1 d1)) #[] 0 (Nat.le_refl _) (Nat.zero_le _) rfl
  have hgl := Lib.hid (allocB HG.out (.cells #[] 3))
  have hrd := Lib.hid (HA3.out.below hgl.out)
  have hzo : w.heap.size + 1 + 1 < wa.heap.size := by first | omega | (have hz9 := blk_lt B_o.out; simp at hz9; omega)
  have hbb : wa.heap.size ≤ ((wa.setCell ⟨(w.heap.size + 1 + 1), 1, none⟩ (.slice B1 n1 d1)).alloc (.cells #[] 3)).heap.size := by rw [← hE]; simp
  clear hE
  have L_p := al_box B_p (.cells #[] 3)
  have L_r := al_box B_r (.cells #[] 3)
  have L_o := al_box B_o (.cells #[] 3)
  have hrow := Lib.hid (HO1.out.alloc (.cells #[] 3))
  have l0 := box_cell L_p 3; simp at l0
  go_upto_region 4 with (at_builtin; refine wpList_appN _ rfl _ _ _ rfl (wa.heap.size) 3 i0 _ 1 8 Tryd.underlying23 HI.out rfl Nat.one_pos _ 0 [] rfl hlit.out A3 n3 c3 (ints Q) rfl HN3.out hrd.out HZ3.out (ints_one Q) (by omega) (by omega) hbb ?_; intro v' wb hown3 hg3; have K_p := rowboxP hlit.out hg3 (by omega) L_p; have K_r := rowboxP hlit.out hg3 (by omega) L_r; have K_o := rowboxP hlit.out hg3 (by omega) L_o; have hG3 := Lib.hid (grown_geP hgl.out (by omega) hlit.out hg3); have hr3 := Lib.hid (hrow.out.kept hg3 (.inr (fun e => absurd (HB1.out _ e) (Nat.lt_irrefl _)))); obtain ⟨B3, d3, rfl, hnew⟩ := row_is (n' := n3) (cs' := ints Q) hown3 (by omega) (by simp); have q0 := box_cell K_o 3; have q1 := box_free K_o 3; simp at q0; have hsw := hg3.size; clear hown3 hg3)
  replace B_p := K_p
  replace B_r := K_r
  replace B_o := K_o
  replace HG := hG3
  clear L_p K_p L_r K_r L_o K_o
  clear hlit hgl hrd hbb hG3 l0 q0 q1
  clear k_o_1 y_o_1 c_p_3 c_o_3
  have HO3 := Lib.hid (row_setQ (g := (w.heap.size + 1 + 1)) (j := 3) (u := .slice B3 n3 d3) hnew (by omega))
  clear hnew
  replace HO1 := Lib.hid (row_setQ (g := (w.heap.size + 1 + 1)) (j := 3) (u := .slice B3 n3 d3) hr3.out (by omega))
  have k_o_2 : wb.cell? ⟨(w.heap.size + 1 + 1), 3, none⟩ = some (.slice A3 n3 c3) := box_cell B_o 3
  have y_o_2 : wb.frozen? ⟨(w.heap.size + 1 + 1), 3, none⟩ = false := box_free B_o 3
  replace B_p := st_box (g' := (w.heap.size + 1 + 1)) (j := 3) B_p (.slice B3 n3 d3) (by omega)
  replace B_r := st_box (g' := (w.heap.size + 1 + 1)) (j := 3) B_r (.slice B3 n3 d3) (by omega)
  replace B_o := st_same B_o 3 (.slice B3 n3 d3)
  replace HG := Lib.hid (be_set (g := (w.heap.size + 1 + 1)) (j := 3) (u := .slice B3 n3 d3) HG.out  Z_o)
  replace B_o : Hid ((wb.setCell ⟨(w.heap.size + 1 + 1), 3, none⟩ (.slice B3 n3 d3)).heap[(w.heap.size + 1 + 1)]? = some (.cells #[.int .i64 M, .slice B1 n1 d1, .int .i64 S, .slice B3 n3 d3, .int .i64 L, .int .i64 K, .int .i64 T, .int .i64 E] 25 (0, 0))) := B_o
  have HAP : Hid (Apt B1 B3) := fun a b e1 e3 => by subst e1; subst e3; have h1 := HB1.out a.block rfl; have h3 := (HO3.out.lt b.block rfl).1; omega
  clear HB1
  have c_o_0 : (wb.setCell ⟨(w.heap.size + 1 + 1), 3, none⟩ (.slice B3 n3 d3)).cell? ⟨(w.heap.size + 1 + 1), 0, none⟩ = some (.int .i64 M) := box_cell B_o 0
  have c_o_1 : (wb.setCell ⟨(w.heap.size + 1 + 1), 3, none⟩ (.slice B3 n3 d3)).cell? ⟨(w.heap.size + 1 + 1), 1, none⟩ = some (.slice B1 n1 d1) := box_cell B_o 1
  have c_o_2 : (wb.setCell ⟨(w.heap.size + 1 + 1), 3, none⟩ (.slice B3 n3 d3)).cell? ⟨(w.heap.size + 1 + 1), 2, none⟩ = some (.int .i64 S) := box_cell B_o 2
  have c_o_3 : (wb.setCell ⟨(w.heap.size + 1 + 1), 3, none⟩ (.slice B3 n3 d3)).cell? ⟨(w.heap.size + 1 + 1), 3, none⟩ = some (.slice B3 n3 d3) := box_cell B_o 3
  have c_o_4 : (wb.setCell ⟨(w.heap.size + 1 + 1), 3, none⟩ (.slice B3 n3 d3)).cell? ⟨(w.heap.size + 1 + 1), 4, none⟩ = some (.int .i64 L) := box_cell B_o 4
  have c_o_5 : (wb.setCell ⟨(w.heap.size + 1 + 1), 3, none⟩ (.slice B3 n3 d3)).cell? ⟨(w.heap.size + 1 + 1), 5, none⟩ = some (.int .i64 K) := box_cell B_o 5
  have c_o_6 : (wb.setCell ⟨(w.heap.size + 1 + 1), 3, none⟩ (.slice B3 n3 d3)).cell? ⟨(w.heap.size + 1 + 1), 6, none⟩ = some (.int .i64 T) := box_cell B_o 6
  have c_o_7 : (wb.setCell ⟨(w.heap.size + 1 + 1), 3, none⟩ (.slice B3 n3 d3)).cell? ⟨(w.heap.size + 1 + 1), 7, none⟩ = some (.int .i64 E) := box_cell B_o 7
  replace HO1 := Lib.hid (row_setQ (g := (w.heap.size + 1)) (j := 0) (u := .int .i64 M) HO1.out (by omega))
  replace HO3 := Lib.hid (row_setQ (g := (w.heap.size + 1)) (j := 0) (u := .int .i64 M) HO3.out (by omega))
  have k_r_3 : (wb.setCell ⟨(w.heap.size + 1 + 1), 3, none⟩ (.slice B3 n3 d3)).cell? ⟨(w.heap.size + 1), 0, none⟩ = some (.int .i64 0) := box_cell B_r 0
  have y_r_3 : (wb.setCell ⟨(w.heap.size + 1 + 1), 3, none⟩ (.slice B3 n3 d3)).frozen? ⟨(w.heap.size + 1), 0, none⟩ = false := box_free B_r 0
  replace B_p := st_box (g' := (w.heap.size + 1)) (j := 0) B_p (.int .i64 M) (by omega)
  replace B_o := st_box (g' := (w.heap.size + 1)) (j := 0) B_o (.int .i64 M) (by omega)
  replace B_r := st_same B_r 0 (.int .i64 M)
  replace HG := Lib.hid (be_set (g := (w.heap.size + 1)) (j := 0) (u := .int .i64 M) HG.out  Z_r)
  replace B_r : Hid (((wb.setCell ⟨(w.heap.size + 1 + 1), 3, none⟩ (.slice B3 n3 d3)).setCell ⟨(w.heap.size + 1), 0, none⟩ (.int .i64 M)).heap[(w.heap.size + 1)]? = some (.cells #[.int .i64 M, .slice none 0 0, .int .i64 0, .slice none 0 0, .int .i64 0, .int .i64 0, .int .i64 0, .int .i64 0] 25 (0, 0))) := B_r
  replace HO1 := Lib.hid (row_setQ (g := (w.heap.size + 1)) (j := 1) (u := .slice B1 n1 d1) HO1.out (by omega))
  replace HO3 := Lib.hid (row_setQ (g := (w.heap.size + 1)) (j := 1) (u := .slice B1 n1 d1) HO3.out (by omega))
  have k_r_4 : ((wb.setCell ⟨(w.heap.size + 1 + 1), 3, none⟩ (.slice B3 n3 d3)).setCell ⟨(w.heap.size + 1), 0, none⟩ (.int .i64 M)).cell? ⟨(w.heap.size + 1), 1, none⟩ = some (.slice none 0 0) := box_cell B_r 1
  have y_r_4 : ((wb.setCell ⟨(w.heap.size + 1 + 1), 3, none⟩ (.slice B3 n3 d3)).setCell ⟨(w.heap.size + 1), 0, none⟩ (.int .i64 M)).frozen? ⟨(w.heap.size + 1), 1, none⟩ = false := box_free B_r 1
  replace B_p := st_box (g' := (w.heap.size + 1)) (j := 1) B_p (.slice B1 n1 d1) (by omega)
  replace B_o := st_box (g' := (w.heap.size + 1)) (j := 1) B_o (.slice B1 n1 d1) (by omega)
  replace B_r := st_same B_r 1 (.slice B1 n1 d1)
  replace HG := Lib.hid (be_set (g := (w.heap.size + 1)) (j := 1) (u := .slice B1 n1 d1) HG.out  Z_r)
  replace B_r : Hid ((((wb.setCell ⟨(w.heap.size + 1 + 1), 3, none⟩ (.slice B3 n3 d3)).setCell ⟨(w.heap.size + 1), 0, none⟩ (.int .i64 M)).setCell ⟨(w.heap.size + 1), 1, none⟩ (.slice B1 n1 d1)).heap[(w.heap.size + 1)]? = some (.cells #[.int .i64 M, .slice B1 n1 d1, .int .i64 0, .slice none 0 0, .int .i64 0, .int .i64 0, .int .i64 0, .int .i64 0] 25 (0, 0))) := B_r
  replace HO1 := Lib.hid (row_setQ (g := (w.heap.size + 1)) (j := 2) (u := .int .i64 S) HO1.out (by omega))
  replace HO3 := Lib.hid (row_setQ (g := (w.heap.size + 1)) (j := 2) (u := .int .i64 S) HO3.out (by omega))
  have k_r_5 : (((wb.setCell ⟨(w.heap.size + 1 + 1), 3, none⟩ (.slice B3 n3 d3)).setCell ⟨(w.heap.size + 1), 0, none⟩ (.int .i64 M)).setCell ⟨(w.heap.size + 1), 1, none⟩ (.slice B1 n1 d1)).cell? ⟨(w.heap.size + 1), 2, none⟩ = some (.int .i64 0) := box_cell B_r 2
  have y_r_5 : (((wb.setCell ⟨(w.heap.size + 1 + 1), 3, none⟩ (.slice B3 n3 d3)).setCell ⟨(w.heap.size + 1), 0, none⟩ (.int .i64 M)).setCell ⟨(w.heap.size + 1), 1, none⟩ (.slice B1 n1 d1)).frozen? ⟨(w.heap.size + 1), 2, none⟩ = false := box_free B_r 2
  replace B_p := st_box (g' := (w.heap.size + 1)) (j := 2) B_p (.int .i64 S) (by omega)
  replace B_o := st_box (g' := (w.heap.size + 1)) (j := 2) B_o (.int .i64 S) (by omega)
  replace B_r := st_same B_r 2 (.int .i64 S)
  replace HG := Lib.hid (be_set (g := (w.heap.size + 1)) (j := 2) (u := .int .i64 S) HG.out  Z_r)
  replace B_r : Hid (((((wb.setCell ⟨(w.heap.size + 1 + 1), 3, none⟩ (.slice B3 n3 d3)).setCell ⟨(w.heap.size + 1), 0, none⟩ (.int .i64 M)).setCell ⟨(w.heap.size + 1), 1, none⟩ (.slice B1 n1 d1)).setCell ⟨(w.heap.size + 1), 2, none⟩ (.int .i64 S)).heap[(w.heap.size + 1)]? = some (.cells #[.int .i64 M, .slice B1 n1 d1, .int .i64 S, .slice none 0 0, .int .i64 0, .int .i64 0, .int .i64 0, .int .i64 0] 25 (0, 0))) := B_r
  replace HO1 := Lib.hid (row_setQ (g := (w.heap.size + 1)) (j := 3) (u := .slice B3 n3 d3) HO1.out (by omega))
  replace HO3 := Lib.hid (row_setQ (g := (w.heap.size + 1)) (j := 3) (u := .slice B3 n3 d3) HO3.out (by omega))
  have k_r_6 : ((((wb.setCell ⟨(w.heap.size + 1 + 1), 3, none⟩ (.slice B3 n3 d3)).setCell ⟨(w.heap.size + 1), 0, none⟩ (.int .i64 M)).setCell ⟨(w.heap.size + 1), 1, none⟩ (.slice B1 n1 d1)).setCell ⟨(w.heap.size + 1), 2, none⟩ (.int .i64 S)).cell? ⟨(w.heap.size + 1), 3, none⟩ = some (.slice none 0 0) := box_cell B_r 3
  have y_r_6 : ((((wb.setCell ⟨(w.heap.size + 1 + 1), 3, none⟩ (.slice B3 n3 d3)).setCell ⟨(w.heap.size + 1), 0, none⟩ (.int .i64 M)).setCell ⟨(w.heap.size + 1), 1, none⟩ (.slice B1 n1 d1)).setCell ⟨(w.heap.size + 1), 2, none⟩ (.int .i64 S)).frozen? ⟨(w.heap.size + 1), 3, none⟩ = false := box_free B_r 3
  replace B_p := st_box (g' := (w.heap.size + 1)) (j := 3) B_p (.slice B3 n3 d3) (by omega)
  replace B_o := st_box (g' := (w.heap.size + 1)) (j := 3) B_o (.slice B3 n3 d3) (by omega)
  replace B_r := st_same B_r 3 (.slice B3 n3 d3)
  replace HG := Lib.hid (be_set (g := (w.heap.size + 1)) (j := 3) (u := .slice B3 n3 d3) HG.out  Z_r)
  replace B_r : Hid ((((((wb.setCell ⟨(w.heap.size + 1 + 1), 3, none⟩ (.slice B3 n3 d3)).setCell ⟨(w.heap.size + 1), 0, none⟩ (.int .i64 M)).setCell ⟨(w.heap.size + 1), 1, none⟩ (.slice B1 n1 d1)).setCell ⟨(w.heap.size + 1), 2, none⟩ (.int .i64 S)).setCell ⟨(w.heap.size + 1), 3, none⟩ (.slice B3 n3 d3)).heap[(w.heap.size + 1)]? = some (.cells #[.int .i64 M, .slice B1 n1 d1, .int .i64 S, .slice B3 n3 d3, .int .i64 0, .int .i64 0, .int .i64 0, .int .i64 0] 25 (0, 0))) := B_r
  replace HO1 := Lib.hid (row_setQ (g := (w.heap.size + 1)) (j := 4) (u := .int .i64 L) HO1.out (by omega))
  replace HO3 := Lib.hid (row_setQ (g := (w.heap.size + 1)) (j := 4) (u := .int .i64 L) HO3.out (by omega))
  have k_r_7 : (((((wb.setCell ⟨(w.heap.size + 1 + 1), 3, none⟩ (.slice B3 n3 d3)).setCell ⟨(w.heap.size + 1), 0, none⟩ (.int .i64 M)).setCell ⟨(w.heap.size + 1), 1, none⟩ (.slice B1 n1 d1)).setCell ⟨(w.heap.size + 1), 2, none⟩ (.int .i64 S)).setCell ⟨(w.heap.size + 1), 3, none⟩ (.slice B3 n3 d3)).cell? ⟨(w.heap.size + 1), 4, none⟩ = some (.int .i64 0) := box_cell B_r 4
  have y_r_7 : (((((wb.setCell ⟨(w.heap.size + 1 + 1), 3, none⟩ (.slice B3 n3 d3)).setCell ⟨(w.heap.size + 1), 0, none⟩ (.int .i64 M)).setCell ⟨(w.heap.size + 1), 1, none⟩ (.slice B1 n1 d1)).setCell ⟨(w.heap.size + 1), 2, none⟩ (.int .i64 S)).setCell ⟨(w.heap.size + 1), 3, none⟩ (.slice B3 n3 d3)).frozen? ⟨(w.heap.size + 1), 4, none⟩ = false := box_free B_r 4
  replace B_p := st_box (g' := (w.heap.size + 1)) (j := 4) B_p (.int .i64 L) (by omega)
  replace B_o := st_box (g' := (w.heap.size + 1)) (j := 4) B_o (.int .i64 L) (by omega)
  replace B_r := st_same B_r 4 (.int .i64 L)
  replace HG := Lib.hid (be_set (g := (w.heap.size + 1)) (j := 4) (u := .int .i64 L) HG.out  Z_r)
  replace B_r : Hid (((((((wb.setCell ⟨(w.heap.size + 1 + 1), 3, none⟩ (.slice B3 n3 d3)).setCell ⟨(w.heap.size + 1), 0, none⟩ (.int .i64 M)).setCell ⟨(w.heap.size + 1), 1, none⟩ (.slice B1 n1 d1)).setCell ⟨(w.heap.size + 1), 2, none⟩ (.int .i64 S)).setCell ⟨(w.heap.size + 1), 3, none⟩ (.slice B3 n3 d3)).setCell ⟨(w.heap.size + 1), 4, none⟩ (.int .i64 L)).heap[(w.heap.size + 1)]? = some (.cells #[.int .i64 M, .slice B1 n1 d1, .int .i64 S, .slice B3 n3 d3, .int .i64 L, .int .i64 0, .int .i64 0, .int .i64 0] 25 (0, 0))) := B_r
  replace HO1 := Lib.hid (row_setQ (g := (w.heap.size + 1)) (j := 5) (u := .int .i64 K) HO1.out (by omega))
  replace HO3 := Lib.hid (row_setQ (g := (w.heap.size + 1)) (j := 5) (u := .int .i64 K) HO3.out (by omega))
  have k_r_8 : ((((((wb.setCell ⟨(w.heap.size + 1 + 1), 3, none⟩ (.slice B3 n3 d3)).setCell ⟨(w.heap.size + 1), 0, none⟩ (.int .i64 M)).setCell ⟨(w.heap.size + 1), 1, none⟩ (.slice B1 n1 d1)).setCell ⟨(w.heap.size + 1), 2, none⟩ (.int .i64 S)).setCell ⟨(w.heap.size + 1), 3, none⟩ (.slice B3 n3 d3)).setCell ⟨(w.heap.size + 1), 4, none⟩ (.int .i64 L)).cell? ⟨(w.heap.size + 1), 5, none⟩ = some (.int .i64 0) := box_cell B_r 5
  have y_r_8 : ((((((wb.setCell ⟨(w.heap.size + 1 + 1), 3, none⟩ (.slice B3 n3 d3)).setCell ⟨(w.heap.size + 1), 0, none⟩ (.int .i64 M)).setCell ⟨(w.heap.size + 1), 1, none⟩ (.slice B1 n1 d1)).setCell ⟨(w.heap.size + 1), 2, none⟩ (.int .i64 S)).setCell ⟨(w.heap.size + 1), 3, none⟩ (.slice B3 n3 d3)).setCell ⟨(w.heap.size + 1), 4, none⟩ (.int .i64 L)).frozen? ⟨(w.heap.size + 1), 5, none⟩ = false := box_free B_r 5
  replace B_p := st_box (g' := (w.heap.size + 1)) (j := 5) B_p (.int .i64 K) (by omega)
  replace B_o := st_box (g' := (w.heap.size + 1)) (j := 5) B_o (.int .i64 K) (by omega)
  replace B_r := st_same B_r 5 (.int .i64 K)
  replace HG := Lib.hid (be_set (g := (w.heap.size + 1)) (j := 5) (u := .int .i64 K) HG.out  Z_r)
  replace B_r : Hid ((((((((wb.setCell ⟨(w.heap.size + 1 + 1), 3, none⟩ (.slice B3 n3 d3)).setCell ⟨(w.heap.size + 1), 0, none⟩ (.int .i64 M)).setCell ⟨(w.heap.size + 1), 1, none⟩ (.slice B1 n1 d1)).setCell ⟨(w.heap.size + 1), 2, none⟩ (.int .i64 S)).setCell ⟨(w.heap.size + 1), 3, none⟩ (.slice B3 n3 d3)).setCell ⟨(w.heap.size + 1), 4, none⟩ (.int .i64 L)).setCell ⟨(w.heap.size + 1), 5, none⟩ (.int .i64 K)).heap[(w.heap.size + 1)]? = some (.cells #[.int .i64 M, .slice B1 n1 d1, .int .i64 S, .slice B3 n3 d3, .int .i64 L, .int .i64 K, .int .i64 0, .int .i64 0] 25 (0, 0))) := B_r
  replace HO1 := Lib.hid (row_setQ (g := (w.heap.size + 1)) (j := 6) (u := .int .i64 T) HO1.out (by omega))
  replace HO3 := Lib.hid (row_setQ (g := (w.heap.size + 1)) (j := 6) (u := .int .i64 T) HO3.out (by omega))
  have k_r_9 : (((((((wb.setCell ⟨(w.heap.size + 1 + 1), 3, none⟩ (.slice B3 n3 d3)).setCell ⟨(w.heap.size + 1), 0, none⟩ (.int .i64 M)).setCell ⟨(w.heap.size + 1), 1, none⟩ (.slice B1 n1 d1)).setCell ⟨(w.heap.size + 1), 2, none⟩ (.int .i64 S)).setCell ⟨(w.heap.size + 1), 3, none⟩ (.slice B3 n3 d3)).setCell ⟨(w.heap.size + 1), 4, none⟩ (.int .i64 L)).setCell ⟨(w.heap.size + 1), 5, none⟩ (.int .i64 K)).cell? ⟨(w.heap.size + 1), 6, none⟩ = some (.int .i64 0) := box_cell B_r 6
  have y_r_9 : (((((((wb.setCell ⟨(w.heap.size + 1 + 1), 3, none⟩ (.slice B3 n3 d3)).setCell ⟨(w.heap.size + 1), 0, none⟩ (.int .i64 M)).setCell ⟨(w.heap.size + 1), 1, none⟩ (.slice B1 n1 d1)).setCell ⟨(w.heap.size + 1), 2, none⟩ (.int .i64 S)).setCell ⟨(w.heap.size + 1), 3, none⟩ (.slice B3 n3 d3)).setCell ⟨(w.heap.size + 1), 4, none⟩ (.int .i64 L)).setCell ⟨(w.heap.size + 1), 5, none⟩ (.int .i64 K)).frozen? ⟨(w.heap.size + 1), 6, none⟩ = false := box_free B_r 6
  replace B_p := st_box (g' := (w.heap.size + 1)) (j := 6) B_p (.int .i64 T) (by omega)
  replace B_o := st_box (g' := (w.heap.size + 1)) (j := 6) B_o (.int .i64 T) (by omega)
  replace B_r := st_same B_r 6 (.int .i64 T)
  replace HG := Lib.hid (be_set (g := (w.heap.size + 1)) (j := 6) (u := .int .i64 T) HG.out  Z_r)
  replace B_r : Hid (((((((((wb.setCell ⟨(w.heap.size + 1 + 1), 3, none⟩ (.slice B3 n3 d3)).setCell ⟨(w.heap.size + 1), 0, none⟩ (.int .i64 M)).setCell ⟨(w.heap.size + 1), 1, none⟩ (.slice B1 n1 d1)).setCell ⟨(w.heap.size + 1), 2, none⟩ (.int .i64 S)).setCell ⟨(w.heap.size + 1), 3, none⟩ (.slice B3 n3 d3)).setCell ⟨(w.heap.size + 1), 4, none⟩ (.int .i64 L)).setCell ⟨(w.heap.size + 1), 5, none⟩ (.int .i64 K)).setCell ⟨(w.heap.size + 1), 6, none⟩ (.int .i64 T)).heap[(w.heap.size + 1)]? = some (.cells #[.int .i64 M, .slice B1 n1 d1, .int .i64 S, .slice B3 n3 d3, .int .i64 L, .int .i64 K, .int .i64 T, .int .i64 0] 25 (0, 0))) := B_r
  replace HO1 := Lib.hid (row_setQ (g := (w.heap.size + 1)) (j := 7) (u := .int .i64 E) HO1.out (by omega))
  replace HO3 := Lib.hid (row_setQ (g := (w.heap.size + 1)) (j := 7) (u := .int .i64 E) HO3.out (by omega))
  have k_r_10 : ((((((((wb.setCell ⟨(w.heap.size + 1 + 1), 3, none⟩ (.slice B3 n3 d3)).setCell ⟨(w.heap.size + 1), 0, none⟩ (.int .i64 M)).setCell ⟨(w.heap.size + 1), 1, none⟩ (.slice B1 n1 d1)).setCell ⟨(w.heap.size + 1), 2, none⟩ (.int .i64 S)).setCell ⟨(w.heap.size + 1), 3, none⟩ (.slice B3 n3 d3)).setCell ⟨(w.heap.size + 1), 4, none⟩ (.int .i64 L)).setCell ⟨(w.heap.size + 1), 5, none⟩ (.int .i64 K)).setCell ⟨(w.heap.size + 1), 6, none⟩ (.int .i64 T)).cell? ⟨(w.heap.size + 1), 7, none⟩ = some (.int .i64 0) := box_cell B_r 7
  have y_r_10 : ((((((((wb.setCell ⟨(w.heap.size + 1 + 1), 3, none⟩ (.slice B3 n3 d3)).setCell ⟨(w.heap.size + 1), 0, none⟩ (.int .i64 M)).setCell ⟨(w.heap.size + 1), 1, none⟩ (.slice B1 n1 d1)).setCell ⟨(w.heap.size + 1), 2, none⟩ (.int .i64 S)).setCell ⟨(w.heap.size + 1), 3, none⟩ (.slice B3 n3 d3)).setCell ⟨(w.heap.size + 1), 4, none⟩ (.int .i64 L)).setCell ⟨(w.heap.size + 1), 5, none⟩ (.int .i64 K)).setCell ⟨(w.heap.size + 1), 6, none⟩ (.int .i64 T)).frozen? ⟨(w.heap.size + 1), 7, none⟩ = false := box_free B_r 7
  replace B_p := st_box (g' := (w.heap.size + 1)) (j := 7) B_p (.int .i64 E) (by omega)
  replace B_o := st_box (g' := (w.heap.size + 1)) (j := 7) B_o (.int .i64 E) (by omega)
  replace B_r := st_same B_r 7 (.int .i64 E)
  replace HG := Lib.hid (be_set (g := (w.heap.size + 1)) (j := 7) (u := .int .i64 E) HG.out  Z_r)
  replace B_r : Hid ((((((((((wb.setCell ⟨(w.heap.size + 1 + 1), 3, none⟩ (.slice B3 n3 d3)).setCell ⟨(w.heap.size + 1), 0, none⟩ (.int .i64 M)).setCell ⟨(w.heap.size + 1), 1, none⟩ (.slice B1 n1 d1)).setCell ⟨(w.heap.size + 1), 2, none⟩ (.int .i64 S)).setCell ⟨(w.heap.size + 1), 3, none⟩ (.slice B3 n3 d3)).setCell ⟨(w.heap.size + 1), 4, none⟩ (.int .i64 L)).setCell ⟨(w.heap.size + 1), 5, none⟩ (.int .i64 K)).setCell ⟨(w.heap.size + 1), 6, none⟩ (.int .i64 T)).setCell ⟨(w.heap.size + 1), 7, none⟩ (.int .i64 E)).heap[(w.heap.size + 1)]? = some (.cells #[.int .i64 M, .slice B1 n1 d1, .int .i64 S, .slice B3 n3 d3, .int .i64 L, .int .i64 K, .int .i64 T, .int .i64 E] 25 (0, 0))) := B_r
  have c_r_0 : (((((((((wb.setCell ⟨(w.heap.size + 1 + 1), 3, none⟩ (.slice B3 n3 d3)).setCell ⟨(w.heap.size + 1), 0, none⟩ (.int .i64 M)).setCell ⟨(w.heap.size + 1), 1, none⟩ (.slice B1 n1 d1)).setCell ⟨(w.heap.size + 1), 2, none⟩ (.int .i64 S)).setCell ⟨(w.heap.size + 1), 3, none⟩ (.slice B3 n3 d3)).setCell ⟨(w.heap.size + 1), 4, none⟩ (.int .i64 L)).setCell ⟨(w.heap.size + 1), 5, none⟩ (.int .i64 K)).setCell ⟨(w.heap.size + 1), 6, none⟩ (.int .i64 T)).setCell ⟨(w.heap.size + 1), 7, none⟩ (.int .i64 E)).cell? ⟨(w.heap.size + 1), 0, none⟩ = some (.int .i64 M) := box_cell B_r 0
  have c_r_1 : (((((((((wb.setCell ⟨(w.heap.size + 1 + 1), 3, none⟩ (.slice B3 n3 d3)).setCell ⟨(w.heap.size + 1), 0, none⟩ (.int .i64 M)).setCell ⟨(w.heap.size + 1), 1, none⟩ (.slice B1 n1 d1)).setCell ⟨(w.heap.size + 1), 2, none⟩ (.int .i64 S)).setCell ⟨(w.heap.size + 1), 3, none⟩ (.slice B3 n3 d3)).setCell ⟨(w.heap.size + 1), 4, none⟩ (.int .i64 L)).setCell ⟨(w.heap.size + 1), 5, none⟩ (.int .i64 K)).setCell ⟨(w.heap.size + 1), 6, none⟩ (.int .i64 T)).setCell ⟨(w.heap.size + 1), 7, none⟩ (.int .i64 E)).cell? ⟨(w.heap.size + 1), 1, none⟩ = some (.slice B1 n1 d1) := box_cell B_r 1
  have c_r_2 : (((((((((wb.setCell ⟨(w.heap.size + 1 + 1), 3, none⟩ (.slice B3 n3 d3)).setCell ⟨(w.heap.size + 1), 0, none⟩ (.int .i64 M)).setCell ⟨(w.heap.size + 1), 1, none⟩ (.slice B1 n1 d1)).setCell ⟨(w.heap.size + 1), 2, none⟩ (.int .i64 S)).setCell ⟨(w.heap.size + 1), 3, none⟩ (.slice B3 n3 d3)).setCell ⟨(w.heap.size + 1), 4, none⟩ (.int .i64 L)).setCell ⟨(w.heap.size + 1), 5, none⟩ (.int .i64 K)).setCell ⟨(w.heap.size + 1), 6, none⟩ (.int .i64 T)).setCell ⟨(w.heap.size + 1), 7, none⟩ (.int .i64 E)).cell? ⟨(w.heap.size + 1), 2, none⟩ = some (.int .i64 S) := box_cell B_r 2
  have c_r_3 : (((((((((wb.setCell ⟨(w.heap.size + 1 + 1), 3, none⟩ (.slice B3 n3 d3)).setCell ⟨(w.heap.size + 1), 0, none⟩ (.int .i64 M)).setCell ⟨(w.heap.size + 1), 1, none⟩ (.slice B1 n1 d1)).setCell ⟨(w.heap.size + 1), 2, none⟩ (.int .i64 S)).setCell ⟨(w.heap.size + 1), 3, none⟩ (.slice B3 n3 d3)).setCell ⟨(w.heap.size + 1), 4, none⟩ (.int .i64 L)).setCell ⟨(w.heap.size + 1), 5, none⟩ (.int .i64 K)).setCell ⟨(w.heap.size + 1), 6, none⟩ (.int .i64 T)).setCell ⟨(w.heap.size + 1), 7, none⟩ (.int .i64 E)).cell? ⟨(w.heap.size + 1), 3, none⟩ = some (.slice B3 n3 d3) := box_cell B_r 3
  have c_r_4 : (((((((((wb.setCell ⟨(w.heap.size + 1 + 1), 3, none⟩ (.slice B3 n3 d3)).setCell ⟨(w.heap.size + 1), 0, none⟩ (.int .i64 M)).setCell ⟨(w.heap.size + 1), 1, none⟩ (.slice B1 n1 d1)).setCell ⟨(w.heap.size + 1), 2, none⟩ (.int .i64 S)).setCell ⟨(w.heap.size + 1), 3, none⟩ (.slice B3 n3 d3)).setCell ⟨(w.heap.size + 1), 4, none⟩ (.int .i64 L)).setCell ⟨(w.heap.size + 1), 5, none⟩ (.int .i64 K)).setCell ⟨(w.heap.size + 1), 6, none⟩ (.int .i64 T)).setCell ⟨(w.heap.size + 1), 7, none⟩ (.int .i64 E)).cell? ⟨(w.heap.size + 1), 4, none⟩ = some (.int .i64 L) := box_cell B_r 4
  have c_r_5 : (((((((((wb.setCell ⟨(w.heap.size + 1 + 1), 3, none⟩ (.slice B3 n3 d3)).setCell ⟨(w.heap.size + 1), 0, none⟩ (.int .i64 M)).setCell ⟨(w.heap.size + 1), 1, none⟩ (.slice B1 n1 d1)).setCell ⟨(w.heap.size + 1), 2, none⟩ (.int .i64 S)).setCell ⟨(w.heap.size + 1), 3, none⟩ (.slice B3 n3 d3)).setCell ⟨(w.heap.size + 1), 4, none⟩ (.int .i64 L)).setCell ⟨(w.heap.size + 1), 5, none⟩ (.int .i64 K)).setCell ⟨(w.heap.size + 1), 6, none⟩ (.int .i64 T)).setCell ⟨(w.heap.size + 1), 7, none⟩ (.int .i64 E)).cell? ⟨(w.heap.size + 1), 5, none⟩ = some (.int .i64 K) := box_cell B_r 5
  have c_r_6 : (((((((((wb.setCell ⟨(w.heap.size + 1 + 1), 3, none⟩ (.slice B3 n3 d3)).setCell ⟨(w.heap.size + 1), 0, none⟩ (.int .i64 M)).setCell ⟨(w.heap.size + 1), 1, none⟩ (.slice B1 n1 d1)).setCell ⟨(w.heap.size + 1), 2, none⟩ (.int .i64 S)).setCell ⟨(w.heap.size + 1), 3, none⟩ (.slice B3 n3 d3)).setCell ⟨(w.heap.size + 1), 4, none⟩ (.int .i64 L)).setCell ⟨(w.heap.size + 1), 5, none⟩ (.int .i64 K)).setCell ⟨(w.heap.size + 1), 6, none⟩ (.int .i64 T)).setCell ⟨(w.heap.size + 1), 7, none⟩ (.int .i64 E)).cell? ⟨(w.heap.size + 1), 6, none⟩ = some (.int .i64 T) := box_cell B_r 6
  have c_r_7 : (((((((((wb.setCell ⟨(w.heap.size + 1 + 1), 3, none⟩ (.slice B3 n3 d3)).setCell ⟨(w.heap.size + 1), 0, none⟩ (.int .i64 M)).setCell ⟨(w.heap.size + 1), 1, none⟩ (.slice B1 n1 d1)).setCell ⟨(w.heap.size + 1), 2, none⟩ (.int .i64 S)).setCell ⟨(w.heap.size + 1), 3, none⟩ (.slice B3 n3 d3)).setCell ⟨(w.heap.size + 1), 4, none⟩ (.int .i64 L)).setCell ⟨(w.heap.size + 1), 5, none⟩ (.int .i64 K)).setCell ⟨(w.heap.size + 1), 6, none⟩ (.int .i64 T)).setCell ⟨(w.heap.size + 1), 7, none⟩ (.int .i64 E)).cell? ⟨(w.heap.size + 1), 7, none⟩ = some (.int .i64 E) := box_cell B_r 7
  go_wp2_with fail
  exact bodyPost_ret (v := .agg #[.int .i64 M, .slice B1 n1 d1, .int .i64 S, .slice B3 n3 d3, .int .i64 L, .int .i64 K, .int .i64 T, .int .i64 E]) (by simp [results, Tryd.results36, go_sem, c_r_0, c_r_1, c_r_2, c_r_3, c_r_4, c_r_5, c_r_6, c_r_7]) rfl ⟨B1, d1, B3, d3, rfl, row_mono HO1.out (by omega), row_mono HO3.out (by omega), HAP.out, HG.out⟩
end Go.Proofs.YthekihggedgofaaDoor
