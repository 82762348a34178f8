/- The contract of PollDo. No statement is proved here. -/
import Derived.Test.YthekihggedgofaaDoorPolY
namespace Go.Proofs.YthekihggedgofaaDoor
open Go.RowKit
theorem DoS.neg3 {w W : World} {g : Nat} {M : Int} {A1 : Option Addr} {n1 c1 : Nat} {S : Int} {A3 : Option Addr} {n3 c3 : Nat} {L K T E : Int} {M' : Int} {B1 : Option Addr} {m1 d1 : Nat} {G' : List Int} {S' : Int} {B3 : Option Addr} {m3 d3 : Nat} {Q' : List Int} {L' K' T' E' : Int} (h : DoS w g M A1 n1 c1 S A3 n3 c3 L K T E M' B1 m1 d1 G' S' B3 m3 d3 Q' L' K' T' E' W) : (Value.slice B3 m3 d3).ownBlock ≠ some g := by
  cases B3 with
  | none => simp [Value.ownBlock]
  | some a => have := h.2.2.2.2.2.2.2.2.1.out a rfl; simpa [Value.ownBlock] using this
theorem DoS.take {w W : World} {g : Nat} {M : Int} {A1 : Option Addr} {n1 c1 : Nat} {S : Int} {A3 : Option Addr} {n3 c3 : Nat} {L K T E : Int} {M' : Int} {B1 : Option Addr} {m1 d1 : Nat} {G' : List Int} {S' : Int} {B3 : Option Addr} {m3 d3 : Nat} {Q' : List Int} {L' K' T' E' : Int} {W' : World} {M2 : Int} {C1 : Option Addr} {k1 e1 : Nat} {G2 : List Int} (h : DoS w g M A1 n1 c1 S A3 n3 c3 L K T E M' B1 m1 d1 G' S' B3 m3 d3 Q' L' K' T' E' W) (hg : W.grownBy W' (Value.slice B1 m1 d1).ownBlock) (ho : Off W' (w.heap.size + 3) C1 k1 e1 (ints G2)) (hp : ∀ b, C1 = some b → (Value.slice B1 m1 d1).ownBlock = some b.block ∨ W.heap.size ≤ b.block) :
    Hid (W'.heap[g]? = some (.cells #[.int .i64 M', .slice B1 m1 d1, .int .i64 S', .slice B3 m3 d3, .int .i64 L', .int .i64 K', .int .i64 T', .int .i64 E'] 25 (0, 0))) ∧ DoS w g M A1 n1 c1 S A3 n3 c3 L K T E M2 C1 k1 e1 G2 S' B3 m3 d3 Q' L' K' T' E' ((((((((W'.setCell ⟨g, 0, none⟩ (.int .i64 M2)).setCell ⟨g, 1, none⟩ (.slice C1 k1 e1)).setCell ⟨g, 2, none⟩ (.int .i64 S')).setCell ⟨g, 3, none⟩ (.slice B3 m3 d3)).setCell ⟨g, 4, none⟩ (.int .i64 L')).setCell ⟨g, 5, none⟩ (.int .i64 K')).setCell ⟨g, 6, none⟩ (.int .i64 T')).setCell ⟨g, 7, none⟩ (.int .i64 E')) := by
  obtain ⟨hg0, p1, p2, p3, o1, o3, ha, n1', n3', hb⟩ := h
  have own : ∀ k, (Value.slice B1 m1 d1).ownBlock = some k → w.heap.size + 3 ≤ k ∧ k ≠ g ∧ ∀ b, B3 = some b → b.block ≠ k := by
    intro k e
    cases B1 with
    | none => simp [Value.ownBlock] at e
    | some a =>
      simp [Value.ownBlock] at e
      subst e
      exact ⟨(o1.out.ge a rfl).1, n1'.out a rfl, fun b e => (ha.out a b rfl e).symm⟩
  have hgl := blk_inP p3.out
  have nn : ∀ b, C1 = some b → b.block ≠ g := fun b e => by
    rcases hp b e with h1 | h1
    · exact (own _ h1).2.1
    · omega
  have q3 := box_own p3 hg (fun e => (own _ e).2.1 rfl)
  refine ⟨q3, hg0, box8 (box_own p1 hg (fun e => by have := (own _ e).1; omega)) (by omega) _ _ _ _ _ _ _ _, box8 (box_own p2 hg (fun e => by have := (own _ e).1; omega)) (by omega) _ _ _ _ _ _ _ _, set8_cells q3 _ _ _ _ _ _ _ _, ?_, ?_, ?_, Lib.hid nn, n3', ?_⟩
  · exact Lib.hid (off8 ho nn _ _ _ _ _ _ _ _)
  · exact Lib.hid (off8 (o3.out.kept hg (fun a e e2 => (own _ e2).2.2 a e rfl)) n3'.out _ _ _ _ _ _ _ _)
  · exact Lib.hid (fun a b e1 e3 => by
      rcases hp a e1 with h1 | h1
      · exact ((own _ h1).2.2 b e3).symm
      · have := (o3.out.ge b e3).2; omega)
  · exact Lib.hid (be8 (hb.out.grown hg (by have := hb.out.size; omega) (fun k e => by have := (own k e).1; omega)) (by omega) _ _ _ _ _ _ _ _)
set_option maxRecDepth 100000 in
set_option maxHeartbeats 8000000 in
theorem doC (M : Int) (A1 : Option Addr) (n1 c1 : Nat) (G : List Int) (S : Int) (A3 : Option Addr) (n3 c3 : Nat) (Q : List Int) (L K T E : Int) (kind val : Int) (w : World) (hn1 : G.length = n1) (hm1 : n1 ≤ 1048576) (hA1 : Rd w A1 (ints G)) (hn3 : Q.length = n3) (hm3 : n3 ≤ 1048576) (hA3 : Rd w A3 (ints Q)) (hz1 : A1 = none → n1 = 0 ∧ c1 = 0) (hz3 : A3 = none → n3 = 0 ∧ c3 = 0) :
    Calls Tryd.prog 37 #[.agg #[.int .i64 M, .slice A1 n1 c1, .int .i64 S, .slice A3 n3 c3, .int .i64 L, .int .i64 K, .int .i64 T, .int .i64 E], .agg #[.int .i64 kind, .int .i64 val]] w (RetPD w) := by
  have HA1 := Lib.hid hA1; have HA3 := Lib.hid hA3; clear hA1 hA3
  have HN1 := Lib.hid hn1; have HN3 := Lib.hid hn3; clear hn1 hn3
  have HZ1 := Lib.hid hz1; have HZ3 := Lib.hid hz3; clear hz1 hz3
  obtain ⟨i0, hi0, hq0, hq1, hq2⟩ := info_parts info_int
  have HI := Lib.hid (And.intro hi0 (And.intro hq0 (And.intro hq1 hq2))); clear hi0 hq0 hq1 hq2
  have HG := Lib.hid (Below.refl w.heap.size w)
  go_enter Tryd.func37, Tryd.ntmps37
  have B_p := new_box w (.cells #[.int .i64 M, .slice A1 n1 c1, .int .i64 S, .slice A3 n3 c3, .int .i64 L, .int .i64 K, .int .i64 T, .int .i64 E] 25)
  have Z_p : w.heap.size ≤ w.heap.size := by have := HG.out.size; first | omega | (simp at this; omega) | (simp at this ⊢; omega)
  replace HG := Lib.hid (allocB HG.out (.cells #[.int .i64 M, .slice A1 n1 c1, .int .i64 S, .slice A3 n3 c3, .int .i64 L, .int .i64 K, .int .i64 T, .int .i64 E] 25))
  have M0_p := blk_lt B_p.out
  replace M0_p : w.heap.size < (w.heap.size + 1) := by first | (simp; done) | (simp; omega) | omega
  replace B_p := al_box B_p (.cells #[.int .i64 kind, .int .i64 val] 71)
  have B_d := new_box (w.alloc (.cells #[.int .i64 M, .slice A1 n1 c1, .int .i64 S, .slice A3 n3 c3, .int .i64 L, .int .i64 K, .int .i64 T, .int .i64 E] 25)) (.cells #[.int .i64 kind, .int .i64 val] 71)
  replace B_d : Hid (((w.alloc (.cells #[.int .i64 M, .slice A1 n1 c1, .int .i64 S, .slice A3 n3 c3, .int .i64 L, .int .i64 K, .int .i64 T, .int .i64 E] 25)).alloc (.cells #[.int .i64 kind, .int .i64 val] 71)).heap[(w.heap.size + 1)]? = some (.cells #[.int .i64 kind, .int .i64 val] 71 (0, 0))) := by have := B_d.out; rw [Hid]; simpa using this
  have Z_d : w.heap.size ≤ (w.heap.size + 1) := by have := HG.out.size; first | omega | (simp at this; omega) | (simp at this ⊢; omega)
  have M_p_d : w.heap.size < (w.heap.size + 1) := M0_p
  replace HG := Lib.hid (allocB HG.out (.cells #[.int .i64 kind, .int .i64 val] 71))
  have M0_p := blk_lt B_p.out
  have M0_d := blk_lt B_d.out
  replace M0_p : w.heap.size < (w.heap.size + 1 + 1) := by first | (simp; done) | (simp; omega) | omega
  replace M0_d : (w.heap.size + 1) < (w.heap.size + 1 + 1) := by first | (simp; done) | (simp; omega) | omega
  replace B_p := al_box B_p (.cells #[.int .i64 0, .slice none 0 0, .int .i64 0, .slice none 0 0, .int .i64 0, .int .i64 0, .int .i64 0, .int .i64 0] 25)
  replace B_d := al_box B_d (.cells #[.int .i64 0, .slice none 0 0, .int .i64 0, .slice none 0 0, .int .i64 0, .int .i64 0, .int .i64 0, .int .i64 0] 25)
  have B_r := new_box ((w.alloc (.cells #[.int .i64 M, .slice A1 n1 c1, .int .i64 S, .slice A3 n3 c3, .int .i64 L, .int .i64 K, .int .i64 T, .int .i64 E] 25)).alloc (.cells #[.int .i64 kind, .int .i64 val] 71)) (.cells #[.int .i64 0, .slice none 0 0, .int .i64 0, .slice none 0 0, .int .i64 0, .int .i64 0, .int .i64 0, .int .i64 0] 25)
  replace B_r : Hid ((((w.alloc (.cells #[.int .i64 M, .slice A1 n1 c1, .int .i64 S, .slice A3 n3 c3, .int .i64 L, .int .i64 K, .int .i64 T, .int .i64 E] 25)).alloc (.cells #[.int .i64 kind, .int .i64 val] 71)).alloc (.cells #[.int .i64 0, .slice none 0 0, .int .i64 0, .slice none 0 0, .int .i64 0, .int .i64 0, .int .i64 0, .int .i64 0] 25)).heap[(w.heap.size + 1 + 1)]? = some (.cells #[.int .i64 0, .slice none 0 0, .int .i64 0, .slice none 0 0, .int .i64 0, .int .i64 0, .int .i64 0, .int .i64 0] 25 (0, 0))) := by have := B_r.out; rw [Hid]; simpa using this
  have Z_r : w.heap.size ≤ (w.heap.size + 1 + 1) := by have := HG.out.size; first | omega | (simp at this; omega) | (simp at this ⊢; omega)
  have M_p_r : w.heap.size < (w.heap.size + 1 + 1) := M0_p
  have M_d_r : (w.heap.size + 1) < (w.heap.size + 1 + 1) := M0_d
  replace HG := Lib.hid (allocB HG.out (.cells #[.int .i64 0, .slice none 0 0, .int .i64 0, .slice none 0 0, .int .i64 0, .int .i64 0, .int .i64 0, .int .i64 0] 25))
  have c_p_0 : (((w.alloc (.cells #[.int .i64 M, .slice A1 n1 c1, .int .i64 S, .slice A3 n3 c3, .int .i64 L, .int .i64 K, .int .i64 T, .int .i64 E] 25)).alloc (.cells #[.int .i64 kind, .int .i64 val] 71)).alloc (.cells #[.int .i64 0, .slice none 0 0, .int .i64 0, .slice none 0 0, .int .i64 0, .int .i64 0, .int .i64 0, .int .i64 0] 25)).cell? ⟨w.heap.size, 0, none⟩ = some (.int .i64 M) := box_cell B_p 0
  have c_p_1 : (((w.alloc (.cells #[.int .i64 M, .slice A1 n1 c1, .int .i64 S, .slice A3 n3 c3, .int .i64 L, .int .i64 K, .int .i64 T, .int .i64 E] 25)).alloc (.cells #[.int .i64 kind, .int .i64 val] 71)).alloc (.cells #[.int .i64 0, .slice none 0 0, .int .i64 0, .slice none 0 0, .int .i64 0, .int .i64 0, .int .i64 0, .int .i64 0] 25)).cell? ⟨w.heap.size, 1, none⟩ = some (.slice A1 n1 c1) := box_cell B_p 1
  have c_p_2 : (((w.alloc (.cells #[.int .i64 M, .slice A1 n1 c1, .int .i64 S, .slice A3 n3 c3, .int .i64 L, .int .i64 K, .int .i64 T, .int .i64 E] 25)).alloc (.cells #[.int .i64 kind, .int .i64 val] 71)).alloc (.cells #[.int .i64 0, .slice none 0 0, .int .i64 0, .slice none 0 0, .int .i64 0, .int .i64 0, .int .i64 0, .int .i64 0] 25)).cell? ⟨w.heap.size, 2, none⟩ = some (.int .i64 S) := box_cell B_p 2
  have c_p_3 : (((w.alloc (.cells #[.int .i64 M, .slice A1 n1 c1, .int .i64 S, .slice A3 n3 c3, .int .i64 L, .int .i64 K, .int .i64 T, .int .i64 E] 25)).alloc (.cells #[.int .i64 kind, .int .i64 val] 71)).alloc (.cells #[.int .i64 0, .slice none 0 0, .int .i64 0, .slice none 0 0, .int .i64 0, .int .i64 0, .int .i64 0, .int .i64 0] 25)).cell? ⟨w.heap.size, 3, none⟩ = some (.slice A3 n3 c3) := box_cell B_p 3
  have c_p_4 : (((w.alloc (.cells #[.int .i64 M, .slice A1 n1 c1, .int .i64 S, .slice A3 n3 c3, .int .i64 L, .int .i64 K, .int .i64 T, .int .i64 E] 25)).alloc (.cells #[.int .i64 kind, .int .i64 val] 71)).alloc (.cells #[.int .i64 0, .slice none 0 0, .int .i64 0, .slice none 0 0, .int .i64 0, .int .i64 0, .int .i64 0, .int .i64 0] 25)).cell? ⟨w.heap.size, 4, none⟩ = some (.int .i64 L) := box_cell B_p 4
  have c_p_5 : (((w.alloc (.cells #[.int .i64 M, .slice A1 n1 c1, .int .i64 S, .slice A3 n3 c3, .int .i64 L, .int .i64 K, .int .i64 T, .int .i64 E] 25)).alloc (.cells #[.int .i64 kind, .int .i64 val] 71)).alloc (.cells #[.int .i64 0, .slice none 0 0, .int .i64 0, .slice none 0 0, .int .i64 0, .int .i64 0, .int .i64 0, .int .i64 0] 25)).cell? ⟨w.heap.size, 5, none⟩ = some (.int .i64 K) := box_cell B_p 5
  have c_p_6 : (((w.alloc (.cells #[.int .i64 M, .slice A1 n1 c1, .int .i64 S, .slice A3 n3 c3, .int .i64 L, .int .i64 K, .int .i64 T, .int .i64 E] 25)).alloc (.cells #[.int .i64 kind, .int .i64 val] 71)).alloc (.cells #[.int .i64 0, .slice none 0 0, .int .i64 0, .slice none 0 0, .int .i64 0, .int .i64 0, .int .i64 0, .int .i64 0] 25)).cell? ⟨w.heap.size, 6, none⟩ = some (.int .i64 T) := box_cell B_p 6
  have c_p_7 : (((w.alloc (.cells #[.int .i64 M, .slice A1 n1 c1, .int .i64 S, .slice A3 n3 c3, .int .i64 L, .int .i64 K, .int .i64 T, .int .i64 E] 25)).alloc (.cells #[.int .i64 kind, .int .i64 val] 71)).alloc (.cells #[.int .i64 0, .slice none 0 0, .int .i64 0, .slice none 0 0, .int .i64 0, .int .i64 0, .int .i64 0, .int .i64 0] 25)).cell? ⟨w.heap.size, 7, none⟩ = some (.int .i64 E) := box_cell B_p 7
  have ha1 := HA1.out.below HG.out; have ha3 := HA3.out.below HG.out
  go_wp2_with fail
  refine (specPV M A1 n1 c1 G S A3 n3 c3 Q L K T E _ HN1.out hm1 ha1 HN3.out hm3 ha3).mono ?_
  rintro e w1 ⟨rfl, hbn⟩
  clear ha1 ha3
  replace B_p := be_box B_p hbn
  replace B_d := be_box B_d hbn
  replace B_r := be_box B_r hbn
  replace HG := Lib.hid (seqB HG.out hbn)
  clear hbn
  clear M0_p M0_d c_p_0 c_p_1 c_p_2 c_p_3 c_p_4 c_p_5 c_p_6 c_p_7
  cases hv : pollB M S L K T E G Q with
  | false =>
    have k_r_1 : w1.cell? ⟨(w.heap.size + 1 + 1), 0, none⟩ = some (.int .i64 0) := box_cell B_r 0
    have y_r_1 : w1.frozen? ⟨(w.heap.size + 1 + 1), 0, none⟩ = false := box_free B_r 0
    replace B_p := st_box (g' := (w.heap.size + 1 + 1)) (j := 0) B_p (.int .i64 0) (by omega)
    replace B_d := st_box (g' := (w.heap.size + 1 + 1)) (j := 0) B_d (.int .i64 0) (by omega)
    replace B_r := st_same B_r 0 (.int .i64 0)
    replace HG := Lib.hid (be_set (g := (w.heap.size + 1 + 1)) (j := 0) (u := .int .i64 0) HG.out  Z_r)
    replace B_r : Hid ((w1.setCell ⟨(w.heap.size + 1 + 1), 0, none⟩ (.int .i64 0)).heap[(w.heap.size + 1 + 1)]? = some (.cells #[.int .i64 0, .slice none 0 0, .int .i64 0, .slice none 0 0, .int .i64 0, .int .i64 0, .int .i64 0, .int .i64 0] 25 (0, 0))) := B_r
    have k_r_2 : (w1.setCell ⟨(w.heap.size + 1 + 1), 0, none⟩ (.int .i64 0)).cell? ⟨(w.heap.size + 1 + 1), 1, none⟩ = some (.slice none 0 0) := box_cell B_r 1
    have y_r_2 : (w1.setCell ⟨(w.heap.size + 1 + 1), 0, none⟩ (.int .i64 0)).frozen? ⟨(w.heap.size + 1 + 1), 1, none⟩ = false := box_free B_r 1
    replace B_p := st_box (g' := (w.heap.size + 1 + 1)) (j := 1) B_p (.slice none 0 0) (by omega)
    replace B_d := st_box (g' := (w.heap.size + 1 + 1)) (j := 1) B_d (.slice none 0 0) (by omega)
    replace B_r := st_same B_r 1 (.slice none 0 0)
    replace HG := Lib.hid (be_set (g := (w.heap.size + 1 + 1)) (j := 1) (u := .slice none 0 0) HG.out  Z_r)
    replace B_r : Hid (((w1.setCell ⟨(w.heap.size + 1 + 1), 0, none⟩ (.int .i64 0)).setCell ⟨(w.heap.size + 1 + 1), 1, none⟩ (.slice none 0 0)).heap[(w.heap.size + 1 + 1)]? = some (.cells #[.int .i64 0, .slice none 0 0, .int .i64 0, .slice none 0 0, .int .i64 0, .int .i64 0, .int .i64 0, .int .i64 0] 25 (0, 0))) := B_r
    have k_r_3 : ((w1.setCell ⟨(w.heap.size + 1 + 1), 0, none⟩ (.int .i64 0)).setCell ⟨(w.heap.size + 1 + 1), 1, none⟩ (.slice none 0 0)).cell? ⟨(w.heap.size + 1 + 1), 2, none⟩ = some (.int .i64 0) := box_cell B_r 2
    have y_r_3 : ((w1.setCell ⟨(w.heap.size + 1 + 1), 0, none⟩ (.int .i64 0)).setCell ⟨(w.heap.size + 1 + 1), 1, none⟩ (.slice none 0 0)).frozen? ⟨(w.heap.size + 1 + 1), 2, none⟩ = false := box_free B_r 2
    replace B_p := st_box (g' := (w.heap.size + 1 + 1)) (j := 2) B_p (.int .i64 0) (by omega)
    replace B_d := st_box (g' := (w.heap.size + 1 + 1)) (j := 2) B_d (.int .i64 0) (by omega)
    replace B_r := st_same B_r 2 (.int .i64 0)
    replace HG := Lib.hid (be_set (g := (w.heap.size + 1 + 1)) (j := 2) (u := .int .i64 0) HG.out  Z_r)
    replace B_r : Hid ((((w1.setCell ⟨(w.heap.size + 1 + 1), 0, none⟩ (.int .i64 0)).setCell ⟨(w.heap.size + 1 + 1), 1, none⟩ (.slice none 0 0)).setCell ⟨(w.heap.size + 1 + 1), 2, none⟩ (.int .i64 0)).heap[(w.heap.size + 1 + 1)]? = some (.cells #[.int .i64 0, .slice none 0 0, .int .i64 0, .slice none 0 0, .int .i64 0, .int .i64 0, .int .i64 0, .int .i64 0] 25 (0, 0))) := B_r
    have k_r_4 : (((w1.setCell ⟨(w.heap.size + 1 + 1), 0, none⟩ (.int .i64 0)).setCell ⟨(w.heap.size + 1 + 1), 1, none⟩ (.slice none 0 0)).setCell ⟨(w.heap.size + 1 + 1), 2, none⟩ (.int .i64 0)).cell? ⟨(w.heap.size + 1 + 1), 3, none⟩ = some (.slice none 0 0) := box_cell B_r 3
    have y_r_4 : (((w1.setCell ⟨(w.heap.size + 1 + 1), 0, none⟩ (.int .i64 0)).setCell ⟨(w.heap.size + 1 + 1), 1, none⟩ (.slice none 0 0)).setCell ⟨(w.heap.size + 1 + 1), 2, none⟩ (.int .i64 0)).frozen? ⟨(w.heap.size + 1 + 1), 3, none⟩ = false := box_free B_r 3
    replace B_p := st_box (g' := (w.heap.size + 1 + 1)) (j := 3) B_p (.slice none 0 0) (by omega)
    replace B_d := st_box (g' := (w.heap.size + 1 + 1)) (j := 3) B_d (.slice none 0 0) (by omega)
    replace B_r := st_same B_r 3 (.slice none 0 0)
    replace HG := Lib.hid (be_set (g := (w.heap.size + 1 + 1)) (j := 3) (u := .slice none 0 0) HG.out  Z_r)
    replace B_r : Hid (((((w1.setCell ⟨(w.heap.size + 1 + 1), 0, none⟩ (.int .i64 0)).setCell ⟨(w.heap.size + 1 + 1), 1, none⟩ (.slice none 0 0)).setCell ⟨(w.heap.size + 1 + 1), 2, none⟩ (.int .i64 0)).setCell ⟨(w.heap.size + 1 + 1), 3, none⟩ (.slice none 0 0)).heap[(w.heap.size + 1 + 1)]? = some (.cells #[.int .i64 0, .slice none 0 0, .int .i64 0, .slice none 0 0, .int .i64 0, .int .i64 0, .int .i64 0, .int .i64 0] 25 (0, 0))) := B_r
    have k_r_5 : ((((w1.setCell ⟨(w.heap.size + 1 + 1), 0, none⟩ (.int .i64 0)).setCell ⟨(w.heap.size + 1 + 1), 1, none⟩ (.slice none 0 0)).setCell ⟨(w.heap.size + 1 + 1), 2, none⟩ (.int .i64 0)).setCell ⟨(w.heap.size + 1 + 1), 3, none⟩ (.slice none 0 0)).cell? ⟨(w.heap.size + 1 + 1), 4, none⟩ = some (.int .i64 0) := box_cell B_r 4
    have y_r_5 : ((((w1.setCell ⟨(w.heap.size + 1 + 1), 0, none⟩ (.int .i64 0)).setCell ⟨(w.heap.size + 1 + 1), 1, none⟩ (.slice none 0 0)).setCell ⟨(w.heap.size + 1 + 1), 2, none⟩ (.int .i64 0)).setCell ⟨(w.heap.size + 1 + 1), 3, none⟩ (.slice none 0 0)).frozen? ⟨(w.heap.size + 1 + 1), 4, none⟩ = false := box_free B_r 4
    replace B_p := st_box (g' := (w.heap.size + 1 + 1)) (j := 4) B_p (.int .i64 0) (by omega)
    replace B_d := st_box (g' := (w.heap.size + 1 + 1)) (j := 4) B_d (.int .i64 0) (by omega)
    replace B_r := st_same B_r 4 (.int .i64 0)
    replace HG := Lib.hid (be_set (g := (w.heap.size + 1 + 1)) (j := 4) (u := .int .i64 0) HG.out  Z_r)
    replace B_r : Hid ((((((w1.setCell ⟨(w.heap.size + 1 + 1), 0, none⟩ (.int .i64 0)).setCell ⟨(w.heap.size + 1 + 1), 1, none⟩ (.slice none 0 0)).setCell ⟨(w.heap.size + 1 + 1), 2, none⟩ (.int .i64 0)).setCell ⟨(w.heap.size + 1 + 1), 3, none⟩ (.slice none 0 0)).setCell ⟨(w.heap.size + 1 + 1), 4, none⟩ (.int .i64 0)).heap[(w.heap.size + 1 + 1)]? = some (.cells #[.int .i64 0, .slice none 0 0, .int .i64 0, .slice none 0 0, .int .i64 0, .int .i64 0, .int .i64 0, .int .i64 0] 25 (0, 0))) := B_r
    have k_r_6 : (((((w1.setCell ⟨(w.heap.size + 1 + 1), 0, none⟩ (.int .i64 0)).setCell ⟨(w.heap.size + 1 + 1), 1, none⟩ (.slice none 0 0)).setCell ⟨(w.heap.size + 1 + 1), 2, none⟩ (.int .i64 0)).setCell ⟨(w.heap.size + 1 + 1), 3, none⟩ (.slice none 0 0)).setCell ⟨(w.heap.size + 1 + 1), 4, none⟩ (.int .i64 0)).cell? ⟨(w.heap.size + 1 + 1), 5, none⟩ = some (.int .i64 0) := box_cell B_r 5
    have y_r_6 : (((((w1.setCell ⟨(w.heap.size + 1 + 1), 0, none⟩ (.int .i64 0)).setCell ⟨(w.heap.size + 1 + 1), 1, none⟩ (.slice none 0 0)).setCell ⟨(w.heap.size + 1 + 1), 2, none⟩ (.int .i64 0)).setCell ⟨(w.heap.size + 1 + 1), 3, none⟩ (.slice none 0 0)).setCell ⟨(w.heap.size + 1 + 1), 4, none⟩ (.int .i64 0)).frozen? ⟨(w.heap.size + 1 + 1), 5, none⟩ = false := box_free B_r 5
    replace B_p := st_box (g' := (w.heap.size + 1 + 1)) (j := 5) B_p (.int .i64 0) (by omega)
    replace B_d := st_box (g' := (w.heap.size + 1 + 1)) (j := 5) B_d (.int .i64 0) (by omega)
    replace B_r := st_same B_r 5 (.int .i64 0)
    replace HG := Lib.hid (be_set (g := (w.heap.size + 1 + 1)) (j := 5) (u := .int .i64 0) HG.out  Z_r)
    replace B_r : Hid (((((((w1.setCell ⟨(w.heap.size + 1 + 1), 0, none⟩ (.int .i64 0)).setCell ⟨(w.heap.size + 1 + 1), 1, none⟩ (.slice none 0 0)).setCell ⟨(w.heap.size + 1 + 1), 2, none⟩ (.int .i64 0)).setCell ⟨(w.heap.size + 1 + 1), 3, none⟩ (.slice none 0 0)).setCell ⟨(w.heap.size + 1 + 1), 4, none⟩ (.int .i64 0)).setCell ⟨(w.heap.size + 1 + 1), 5, none⟩ (.int .i64 0)).heap[(w.heap.size + 1 + 1)]? = some (.cells #[.int .i64 0, .slice none 0 0, .int .i64 0, .slice none 0 0, .int .i64 0, .int .i64 0, .int .i64 0, .int .i64 0] 25 (0, 0))) := B_r
    have k_r_7 : ((((((w1.setCell ⟨(w.heap.size + 1 + 1), 0, none⟩ (.int .i64 0)).setCell ⟨(w.heap.size + 1 + 1), 1, none⟩ (.slice none 0 0)).setCell ⟨(w.heap.size + 1 + 1), 2, none⟩ (.int .i64 0)).setCell ⟨(w.heap.size + 1 + 1), 3, none⟩ (.slice none 0 0)).setCell ⟨(w.heap.size + 1 + 1), 4, none⟩ (.int .i64 0)).setCell ⟨(w.heap.size + 1 + 1), 5, none⟩ (.int .i64 0)).cell? ⟨(w.heap.size + 1 + 1), 6, none⟩ = some (.int .i64 0) := box_cell B_r 6
    have y_r_7 : ((((((w1.setCell ⟨(w.heap.size + 1 + 1), 0, none⟩ (.int .i64 0)).setCell ⟨(w.heap.size + 1 + 1), 1, none⟩ (.slice none 0 0)).setCell ⟨(w.heap.size + 1 + 1), 2, none⟩ (.int .i64 0)).setCell ⟨(w.heap.size + 1 + 1), 3, none⟩ (.slice none 0 0)).setCell ⟨(w.heap.size + 1 + 1), 4, none⟩ (.int .i64 0)).setCell ⟨(w.heap.size + 1 + 1), 5, none⟩ (.int .i64 0)).frozen? ⟨(w.heap.size + 1 + 1), 6, none⟩ = false := box_free B_r 6
    replace B_p := st_box (g' := (w.heap.size + 1 + 1)) (j := 6) B_p (.int .i64 0) (by omega)
    replace B_d := st_box (g' := (w.heap.size + 1 + 1)) (j := 6) B_d (.int .i64 0) (by omega)
    replace B_r := st_same B_r 6 (.int .i64 0)
    replace HG := Lib.hid (be_set (g := (w.heap.size + 1 + 1)) (j := 6) (u := .int .i64 0) HG.out  Z_r)
    replace B_r : Hid ((((((((w1.setCell ⟨(w.heap.size + 1 + 1), 0, none⟩ (.int .i64 0)).setCell ⟨(w.heap.size + 1 + 1), 1, none⟩ (.slice none 0 0)).setCell ⟨(w.heap.size + 1 + 1), 2, none⟩ (.int .i64 0)).setCell ⟨(w.heap.size + 1 + 1), 3, none⟩ (.slice none 0 0)).setCell ⟨(w.heap.size + 1 + 1), 4, none⟩ (.int .i64 0)).setCell ⟨(w.heap.size + 1 + 1), 5, none⟩ (.int .i64 0)).setCell ⟨(w.heap.size + 1 + 1), 6, none⟩ (.int .i64 0)).heap[(w.heap.size + 1 + 1)]? = some (.cells #[.int .i64 0, .slice none 0 0, .int .i64 0, .slice none 0 0, .int .i64 0, .int .i64 0, .int .i64 0, .int .i64 0] 25 (0, 0))) := B_r
    have k_r_8 : (((((((w1.setCell ⟨(w.heap.size + 1 + 1), 0, none⟩ (.int .i64 0)).setCell ⟨(w.heap.size + 1 + 1), 1, none⟩ (.slice none 0 0)).setCell ⟨(w.heap.size + 1 + 1), 2, none⟩ (.int .i64 0)).setCell ⟨(w.heap.size + 1 + 1), 3, none⟩ (.slice none 0 0)).setCell ⟨(w.heap.size + 1 + 1), 4, none⟩ (.int .i64 0)).setCell ⟨(w.heap.size + 1 + 1), 5, none⟩ (.int .i64 0)).setCell ⟨(w.heap.size + 1 + 1), 6, none⟩ (.int .i64 0)).cell? ⟨(w.heap.size + 1 + 1), 7, none⟩ = some (.int .i64 0) := box_cell B_r 7
    have y_r_8 : (((((((w1.setCell ⟨(w.heap.size + 1 + 1), 0, none⟩ (.int .i64 0)).setCell ⟨(w.heap.size + 1 + 1), 1, none⟩ (.slice none 0 0)).setCell ⟨(w.heap.size + 1 + 1), 2, none⟩ (.int .i64 0)).setCell ⟨(w.heap.size + 1 + 1), 3, none⟩ (.slice none 0 0)).setCell ⟨(w.heap.size + 1 + 1), 4, none⟩ (.int .i64 0)).setCell ⟨(w.heap.size + 1 + 1), 5, none⟩ (.int .i64 0)).setCell ⟨(w.heap.size + 1 + 1), 6, none⟩ (.int .i64 0)).frozen? ⟨(w.heap.size + 1 + 1), 7, none⟩ = false := box_free B_r 7
    replace B_p := st_box (g' := (w.heap.size + 1 + 1)) (j := 7) B_p (.int .i64 0) (by omega)
    replace B_d := st_box (g' := (w.heap.size + 1 + 1)) (j := 7) B_d (.int .i64 0) (by omega)
    replace B_r := st_same B_r 7 (.int .i64 0)
    replace HG := Lib.hid (be_set (g := (w.heap.size + 1 + 1)) (j := 7) (u := .int .i64 0) HG.out  Z_r)
    replace B_r : Hid (((((((((w1.setCell ⟨(w.heap.size + 1 + 1), 0, none⟩ (.int .i64 0)).setCell ⟨(w.heap.size + 1 + 1), 1, none⟩ (.slice none 0 0)).setCell ⟨(w.heap.size + 1 + 1), 2, none⟩ (.int .i64 0)).setCell ⟨(w.heap.size + 1 + 1), 3, none⟩ (.slice none 0 0)).setCell ⟨(w.heap.size + 1 + 1), 4, none⟩ (.int .i64 0)).setCell ⟨(w.heap.size + 1 + 1), 5, none⟩ (.int .i64 0)).setCell ⟨(w.heap.size + 1 + 1), 6, none⟩ (.int .i64 0)).setCell ⟨(w.heap.size + 1 + 1), 7, none⟩ (.int .i64 0)).heap[(w.heap.size + 1 + 1)]? = some (.cells #[.int .i64 0, .slice none 0 0, .int .i64 0, .slice none 0 0, .int .i64 0, .int .i64 0, .int .i64 0, .int .i64 0] 25 (0, 0))) := B_r
    have c_r_0 : ((((((((w1.setCell ⟨(w.heap.size + 1 + 1), 0, none⟩ (.int .i64 0)).setCell ⟨(w.heap.size + 1 + 1), 1, none⟩ (.slice none 0 0)).setCell ⟨(w.heap.size + 1 + 1), 2, none⟩ (.int .i64 0)).setCell ⟨(w.heap.size + 1 + 1), 3, none⟩ (.slice none 0 0)).setCell ⟨(w.heap.size + 1 + 1), 4, none⟩ (.int .i64 0)).setCell ⟨(w.heap.size + 1 + 1), 5, none⟩ (.int .i64 0)).setCell ⟨(w.heap.size + 1 + 1), 6, none⟩ (.int .i64 0)).setCell ⟨(w.heap.size + 1 + 1), 7, none⟩ (.int .i64 0)).cell? ⟨(w.heap.size + 1 + 1), 0, none⟩ = some (.int .i64 0) := box_cell B_r 0
    have c_r_1 : ((((((((w1.setCell ⟨(w.heap.size + 1 + 1), 0, none⟩ (.int .i64 0)).setCell ⟨(w.heap.size + 1 + 1), 1, none⟩ (.slice none 0 0)).setCell ⟨(w.heap.size + 1 + 1), 2, none⟩ (.int .i64 0)).setCell ⟨(w.heap.size + 1 + 1), 3, none⟩ (.slice none 0 0)).setCell ⟨(w.heap.size + 1 + 1), 4, none⟩ (.int .i64 0)).setCell ⟨(w.heap.size + 1 + 1), 5, none⟩ (.int .i64 0)).setCell ⟨(w.heap.size + 1 + 1), 6, none⟩ (.int .i64 0)).setCell ⟨(w.heap.size + 1 + 1), 7, none⟩ (.int .i64 0)).cell? ⟨(w.heap.size + 1 + 1), 1, none⟩ = some (.slice none 0 0) := box_cell B_r 1
    have c_r_2 : ((((((((w1.setCell ⟨(w.heap.size + 1 + 1), 0, none⟩ (.int .i64 0)).setCell ⟨(w.heap.size + 1 + 1), 1, none⟩ (.slice none 0 0)).setCell ⟨(w.heap.size + 1 + 1), 2, none⟩ (.int .i64 0)).setCell ⟨(w.heap.size + 1 + 1), 3, none⟩ (.slice none 0 0)).setCell ⟨(w.heap.size + 1 + 1), 4, none⟩ (.int .i64 0)).setCell ⟨(w.heap.size + 1 + 1), 5, none⟩ (.int .i64 0)).setCell ⟨(w.heap.size + 1 + 1), 6, none⟩ (.int .i64 0)).setCell ⟨(w.heap.size + 1 + 1), 7, none⟩ (.int .i64 0)).cell? ⟨(w.heap.size + 1 + 1), 2, none⟩ = some (.int .i64 0) := box_cell B_r 2
    have c_r_3 : ((((((((w1.setCell ⟨(w.heap.size + 1 + 1), 0, none⟩ (.int .i64 0)).setCell ⟨(w.heap.size + 1 + 1), 1, none⟩ (.slice none 0 0)).setCell ⟨(w.heap.size + 1 + 1), 2, none⟩ (.int .i64 0)).setCell ⟨(w.heap.size + 1 + 1), 3, none⟩ (.slice none 0 0)).setCell ⟨(w.heap.size + 1 + 1), 4, none⟩ (.int .i64 0)).setCell ⟨(w.heap.size + 1 + 1), 5, none⟩ (.int .i64 0)).setCell ⟨(w.heap.size + 1 + 1), 6, none⟩ (.int .i64 0)).setCell ⟨(w.heap.size + 1 + 1), 7, none⟩ (.int .i64 0)).cell? ⟨(w.heap.size + 1 + 1), 3, none⟩ = some (.slice none 0 0) := box_cell B_r 3
    have c_r_4 : ((((((((w1.setCell ⟨(w.heap.size + 1 + 1), 0, none⟩ (.int .i64 0)).setCell ⟨(w.heap.size + 1 + 1), 1, none⟩ (.slice none 0 0)).setCell ⟨(w.heap.size + 1 + 1), 2, none⟩ (.int .i64 0)).setCell ⟨(w.heap.size + 1 + 1), 3, none⟩ (.slice none 0 0)).setCell ⟨(w.heap.size + 1 + 1), 4, none⟩ (.int .i64 0)).setCell ⟨(w.heap.size + 1 + 1), 5, none⟩ (.int .i64 0)).setCell ⟨(w.heap.size + 1 + 1), 6, none⟩ (.int .i64 0)).setCell ⟨(w.heap.size + 1 + 1), 7, none⟩ (.int .i64 0)).cell? ⟨(w.heap.size + 1 + 1), 4, none⟩ = some (.int .i64 0) := box_cell B_r 4
    have c_r_5 : ((((((((w1.setCell ⟨(w.heap.size + 1 + 1), 0, none⟩ (.int .i64 0)).setCell ⟨(w.heap.size + 1 + 1), 1, none⟩ (.slice none 0 0)).setCell ⟨(w.heap.size + 1 + 1), 2, none⟩ (.int .i64 0)).setCell ⟨(w.heap.size + 1 + 1), 3, none⟩ (.slice none 0 0)).setCell ⟨(w.heap.size + 1 + 1), 4, none⟩ (.int .i64 0)).setCell ⟨(w.heap.size + 1 + 1), 5, none⟩ (.int .i64 0)).setCell ⟨(w.heap.size + 1 + 1), 6, none⟩ (.int .i64 0)).setCell ⟨(w.heap.size + 1 + 1), 7, none⟩ (.int .i64 0)).cell? ⟨(w.heap.size + 1 + 1), 5, none⟩ = some (.int .i64 0) := box_cell B_r 5
    have c_r_6 : ((((((((w1.setCell ⟨(w.heap.size + 1 + 1), 0, none⟩ (.int .i64 0)).setCell ⟨(w.heap.size + 1 + 1), 1, none⟩ (.slice none 0 0)).setCell ⟨(w.heap.size + 1 + 1), 2, none⟩ (.int .i64 0)).setCell ⟨(w.heap.size + 1 + 1), 3, none⟩ (.slice none 0 0)).setCell ⟨(w.heap.size + 1 + 1), 4, none⟩ (.int .i64 0)).setCell ⟨(w.heap.size + 1 + 1), 5, none⟩ (.int .i64 0)).setCell ⟨(w.heap.size + 1 + 1), 6, none⟩ (.int .i64 0)).setCell ⟨(w.heap.size + 1 + 1), 7, none⟩ (.int .i64 0)).cell? ⟨(w.heap.size + 1 + 1), 6, none⟩ = some (.int .i64 0) := box_cell B_r 6
    have c_r_7 : ((((((((w1.setCell ⟨(w.heap.size + 1 + 1), 0, none⟩ (.int .i64 0)).setCell ⟨(w.heap.size + 1 + 1), 1, none⟩ (.slice none 0 0)).setCell ⟨(w.heap.size + 1 + 1), 2, none⟩ (.int .i64 0)).setCell ⟨(w.heap.size + 1 + 1), 3, none⟩ (.slice none 0 0)).setCell ⟨(w.heap.size + 1 + 1), 4, none⟩ (.int .i64 0)).setCell ⟨(w.heap.size + 1 + 1), 5, none⟩ (.int .i64 0)).setCell ⟨(w.heap.size + 1 + 1), 6, none⟩ (.int .i64 0)).setCell ⟨(w.heap.size + 1 + 1), 7, none⟩ (.int .i64 0)).cell? ⟨(w.heap.size + 1 + 1), 7, none⟩ = some (.int .i64 0) := box_cell B_r 7
    go_wp2_with fail
    exact bodyPost_ret (v := .tuple #[.agg #[.int .i64 0, .slice none 0 0, .int .i64 0, .slice none 0 0, .int .i64 0, .int .i64 0, .int .i64 0, .int .i64 0], .bool false]) (by simp [results, Tryd.results37, go_sem, c_r_0, c_r_1, c_r_2, c_r_3, c_r_4, c_r_5, c_r_6, c_r_7]) rfl ⟨_, false, rfl, ⟨0, none, 0, 0, [], 0, none, 0, 0, [], 0, 0, 0, 0, rfl, by omega, by omega, off_zero, off_zero, apt_none⟩, HG.out⟩
  | true =>
    obtain ⟨hl1, hl3⟩ := pollB_len hv
    rw [HN1.out] at hl1; rw [HN3.out] at hl3
    clear hv
    have c_p_0 : w1.cell? ⟨w.heap.size, 0, none⟩ = some (.int .i64 M) := box_cell B_p 0
    have c_p_1 : w1.cell? ⟨w.heap.size, 1, none⟩ = some (.slice A1 n1 c1) := box_cell B_p 1
    have c_p_2 : w1.cell? ⟨w.heap.size, 2, none⟩ = some (.int .i64 S) := box_cell B_p 2
    have c_p_3 : w1.cell? ⟨w.heap.size, 3, none⟩ = some (.slice A3 n3 c3) := box_cell B_p 3
    have c_p_4 : w1.cell? ⟨w.heap.size, 4, none⟩ = some (.int .i64 L) := box_cell B_p 4
    have c_p_5 : w1.cell? ⟨w.heap.size, 5, none⟩ = some (.int .i64 K) := box_cell B_p 5
    have c_p_6 : w1.cell? ⟨w.heap.size, 6, none⟩ = some (.int .i64 T) := box_cell B_p 6
    have c_p_7 : w1.cell? ⟨w.heap.size, 7, none⟩ = some (.int .i64 E) := box_cell B_p 7
    have ha1 := HA1.out.below HG.out; have ha3 := HA3.out.below HG.out
    go_wp2_with fail
    refine (copyC M A1 n1 c1 G S A3 n3 c3 Q L K T E _ HN1.out hm1 ha1 HN3.out hm3 ha3 HZ1.out HZ3.out).mono ?_
    rintro e w2 ⟨B1, d1, B3, d3, rfl, hr1, hr3, hap, hbn⟩
    clear ha1 ha3
    have hz2 := hbn.size
    have hz1 := blk_lt B_r.out
    replace B_p := be_box B_p hbn
    replace B_d := be_box B_d hbn
    replace B_r := be_box B_r hbn
    replace HG := Lib.hid (seqB HG.out hbn)
    clear hbn
    clear c_p_0 c_p_1 c_p_2 c_p_3 c_p_4 c_p_5 c_p_6 c_p_7
    have HD : Hid (DoS w w2.heap.size M A1 n1 c1 S A3 n3 c3 L K T E M B1 n1 d1 G S B3 n3 d3 Q L K T E (w2.alloc (.cells #[.int .i64 M, .slice B1 n1 d1, .int .i64 S, .slice B3 n3 d3, .int .i64 L, .int .i64 K, .int .i64 T, .int .i64 E] 25))) := Lib.hid ⟨by omega, al_box B_p _, al_box B_r _, new_box w2 _, Lib.hid ((off_row (hr1.alloc _)).mono (by omega)), Lib.hid ((off_row (hr3.alloc _)).mono (by omega)), Lib.hid hap, Lib.hid (fun b e => by have := ((off_row hr1).ge b e).2; omega), Lib.hid (fun b e => by have := ((off_row hr3).ge b e).2; omega), Lib.hid (allocB HG.out _)⟩
    replace B_d := al_box B_d (.cells #[.int .i64 M, .slice B1 n1 d1, .int .i64 S, .slice B3 n3 d3, .int .i64 L, .int .i64 K, .int .i64 T, .int .i64 E] 25)
    clear hr1 hr3 hap B_p B_r HG hz2 hz1
    clear M_p_d M_p_r M_d_r Z_p Z_d Z_r
    go_upto_region 5 with fail
    generalize w2.alloc (.cells #[.int .i64 M, .slice B1 n1 d1, .int .i64 S, .slice B3 n3 d3, .int .i64 L, .int .i64 K, .int .i64 T, .int .i64 E] 25) = W2 at *
    generalize w2.heap.size = g at *
    have HR0 := HD.out.1
    by_cases hk1 : kind = 1
    · subst hk1
      have c_d_0 : W2.cell? ⟨(w.heap.size + 1), 0, none⟩ = some (.int .i64 1) := box_cell B_d 0
      have c_p_0 : W2.cell? ⟨w.heap.size, 0, none⟩ = some (.int .i64 M) := box_cell HD.out.2.1 0
      have k5 : W2.cell? ⟨g, 5, none⟩ = some (.int .i64 K) := box_cell HD.out.2.2.2.1 5; have y5 : W2.frozen? ⟨g, 5, none⟩ = false := box_free HD.out.2.2.2.1 5
      replace HD : Hid (DoS w g M A1 n1 c1 S A3 n3 c3 L K T E (M) B1 n1 d1 G (S) B3 n3 d3 Q (L) (M) (T) (E) (W2.setCell ⟨g, 5, none⟩ (.int .i64 M))) := Lib.hid (HD.out.set5 M)
      have c_o_0 : (W2.setCell ⟨g, 5, none⟩ (.int .i64 M)).cell? ⟨g, 0, none⟩ = some (.int .i64 M) := box_cell HD.out.2.2.2.1 0
      have c_o_1 : (W2.setCell ⟨g, 5, none⟩ (.int .i64 M)).cell? ⟨g, 1, none⟩ = some (.slice B1 n1 d1) := box_cell HD.out.2.2.2.1 1
      have c_o_2 : (W2.setCell ⟨g, 5, none⟩ (.int .i64 M)).cell? ⟨g, 2, none⟩ = some (.int .i64 S) := box_cell HD.out.2.2.2.1 2
      have c_o_3 : (W2.setCell ⟨g, 5, none⟩ (.int .i64 M)).cell? ⟨g, 3, none⟩ = some (.slice B3 n3 d3) := box_cell HD.out.2.2.2.1 3
      have c_o_4 : (W2.setCell ⟨g, 5, none⟩ (.int .i64 M)).cell? ⟨g, 4, none⟩ = some (.int .i64 L) := box_cell HD.out.2.2.2.1 4
      have c_o_5 : (W2.setCell ⟨g, 5, none⟩ (.int .i64 M)).cell? ⟨g, 5, none⟩ = some (.int .i64 M) := box_cell HD.out.2.2.2.1 5
      have c_o_6 : (W2.setCell ⟨g, 5, none⟩ (.int .i64 M)).cell? ⟨g, 6, none⟩ = some (.int .i64 T) := box_cell HD.out.2.2.2.1 6
      have c_o_7 : (W2.setCell ⟨g, 5, none⟩ (.int .i64 M)).cell? ⟨g, 7, none⟩ = some (.int .i64 E) := box_cell HD.out.2.2.2.1 7
      have hq1 : G.length = n1 := by have hq := (HD.out.2.2.2.2.1.out).1; rwa [ints_length] at hq
      have hq3 : Q.length = n3 := by have hq := (HD.out.2.2.2.2.2.1.out).1; rwa [ints_length] at hq
      have ra1 := HD.out.2.2.2.2.1.out.rd; have ra3 := HD.out.2.2.2.2.2.1.out.rd
      go_wp2_with fail
      refine (specPV (M) B1 n1 d1 G (S) B3 n3 d3 Q (L) (M) (T) (E) _ hq1 (by omega) ra1 hq3 (by omega) ra3).mono ?_
      rintro e w5 ⟨rfl, hbn⟩
      replace HD := Lib.hid (HD.out.below hbn)
      clear hbn ra1 ra3 c_o_0 c_o_1 c_o_2 c_o_3 c_o_4 c_o_5 c_o_6 c_o_7
      cases hv2 : pollB (M) (S) (L) (M) (T) (E) G Q with
      | true =>
        obtain ⟨hl5, hl6⟩ := pollB_len hv2
        clear hv2
        have HR : Hid (w5.heap[(w.heap.size + 1 + 1)]? = some (.cells #[.int .i64 0, .slice none 0 0, .int .i64 0, .slice none 0 0, .int .i64 0, .int .i64 0, .int .i64 0, .int .i64 0] 25 (0, 0))) := HD.out.2.2.1
        have c_o_0 : w5.cell? ⟨g, 0, none⟩ = some (.int .i64 M) := box_cell HD.out.2.2.2.1 0
        have c_o_1 : w5.cell? ⟨g, 1, none⟩ = some (.slice B1 n1 d1) := box_cell HD.out.2.2.2.1 1
        have c_o_2 : w5.cell? ⟨g, 2, none⟩ = some (.int .i64 S) := box_cell HD.out.2.2.2.1 2
        have c_o_3 : w5.cell? ⟨g, 3, none⟩ = some (.slice B3 n3 d3) := box_cell HD.out.2.2.2.1 3
        have c_o_4 : w5.cell? ⟨g, 4, none⟩ = some (.int .i64 L) := box_cell HD.out.2.2.2.1 4
        have c_o_5 : w5.cell? ⟨g, 5, none⟩ = some (.int .i64 M) := box_cell HD.out.2.2.2.1 5
        have c_o_6 : w5.cell? ⟨g, 6, none⟩ = some (.int .i64 T) := box_cell HD.out.2.2.2.1 6
        have c_o_7 : w5.cell? ⟨g, 7, none⟩ = some (.int .i64 E) := box_cell HD.out.2.2.2.1 7
        have k0 : w5.cell? ⟨(w.heap.size + 1 + 1), 0, none⟩ = some (.int .i64 0) := box_cell HR 0; have y0 : w5.frozen? ⟨(w.heap.size + 1 + 1), 0, none⟩ = false := box_free HR 0
        have k1 : w5.cell? ⟨(w.heap.size + 1 + 1), 1, none⟩ = some (.slice none 0 0) := box_cell HR 1; have y1 : w5.frozen? ⟨(w.heap.size + 1 + 1), 1, none⟩ = false := box_free HR 1
        have k2 : w5.cell? ⟨(w.heap.size + 1 + 1), 2, none⟩ = some (.int .i64 0) := box_cell HR 2; have y2 : w5.frozen? ⟨(w.heap.size + 1 + 1), 2, none⟩ = false := box_free HR 2
        have k3 : w5.cell? ⟨(w.heap.size + 1 + 1), 3, none⟩ = some (.slice none 0 0) := box_cell HR 3; have y3 : w5.frozen? ⟨(w.heap.size + 1 + 1), 3, none⟩ = false := box_free HR 3
        have k4 : w5.cell? ⟨(w.heap.size + 1 + 1), 4, none⟩ = some (.int .i64 0) := box_cell HR 4; have y4 : w5.frozen? ⟨(w.heap.size + 1 + 1), 4, none⟩ = false := box_free HR 4
        have k5 : w5.cell? ⟨(w.heap.size + 1 + 1), 5, none⟩ = some (.int .i64 0) := box_cell HR 5; have y5 : w5.frozen? ⟨(w.heap.size + 1 + 1), 5, none⟩ = false := box_free HR 5
        have k6 : w5.cell? ⟨(w.heap.size + 1 + 1), 6, none⟩ = some (.int .i64 0) := box_cell HR 6; have y6 : w5.frozen? ⟨(w.heap.size + 1 + 1), 6, none⟩ = false := box_free HR 6
        have k7 : w5.cell? ⟨(w.heap.size + 1 + 1), 7, none⟩ = some (.int .i64 0) := box_cell HR 7; have y7 : w5.frozen? ⟨(w.heap.size + 1 + 1), 7, none⟩ = false := box_free HR 7
        have HZ := set8_cells HR (.int .i64 M) (.slice B1 n1 d1) (.int .i64 S) (.slice B3 n3 d3) (.int .i64 L) (.int .i64 M) (.int .i64 T) (.int .i64 E)
        have z0 := box_cell HZ 0; simp at z0
        have z1 := box_cell HZ 1; simp at z1
        have z2 := box_cell HZ 2; simp at z2
        have z3 := box_cell HZ 3; simp at z3
        have z4 := box_cell HZ 4; simp at z4
        have z5 := box_cell HZ 5; simp at z5
        have z6 := box_cell HZ 6; simp at z6
        have z7 := box_cell HZ 7; simp at z7
        go_wp2_with fail
        exact bodyPost_ret (v := .tuple #[.agg #[.int .i64 M, .slice B1 n1 d1, .int .i64 S, .slice B3 n3 d3, .int .i64 L, .int .i64 M, .int .i64 T, .int .i64 E], .bool true]) (by simp [results, Tryd.results37, go_sem, z0, z1, z2, z3, z4, z5, z6, z7]) rfl (retSome (HD.out.2.2.2.2.1.out) (HD.out.2.2.2.2.2.1.out) HD.out.2.2.2.2.2.2.1.out (Nat.le_refl _) HD.out.2.2.2.2.2.2.2.2.2.out (by omega) (by omega) true)
      | false =>
        clear hv2
        have hg5 := blk_lt HD.out.2.2.2.1.out
        have c_p_0 : w5.cell? ⟨w.heap.size, 0, none⟩ = some (.int .i64 M) := box_cell HD.out.2.1 0
        have c_p_1 : w5.cell? ⟨w.heap.size, 1, none⟩ = some (.slice A1 n1 c1) := box_cell HD.out.2.1 1
        have c_p_2 : w5.cell? ⟨w.heap.size, 2, none⟩ = some (.int .i64 S) := box_cell HD.out.2.1 2
        have c_p_3 : w5.cell? ⟨w.heap.size, 3, none⟩ = some (.slice A3 n3 c3) := box_cell HD.out.2.1 3
        have c_p_4 : w5.cell? ⟨w.heap.size, 4, none⟩ = some (.int .i64 L) := box_cell HD.out.2.1 4
        have c_p_5 : w5.cell? ⟨w.heap.size, 5, none⟩ = some (.int .i64 K) := box_cell HD.out.2.1 5
        have c_p_6 : w5.cell? ⟨w.heap.size, 6, none⟩ = some (.int .i64 T) := box_cell HD.out.2.1 6
        have c_p_7 : w5.cell? ⟨w.heap.size, 7, none⟩ = some (.int .i64 E) := box_cell HD.out.2.1 7
        have ha1 := HA1.out.below HD.out.2.2.2.2.2.2.2.2.2.out; have ha3 := HA3.out.below HD.out.2.2.2.2.2.2.2.2.2.out
        go_wp2_with fail
        refine (copyC M A1 n1 c1 G S A3 n3 c3 Q L K T E _ HN1.out hm1 ha1 HN3.out hm3 ha3 HZ1.out HZ3.out).mono ?_
        rintro e w6 ⟨C1, e1, C3, e3, rfl, hr1, hr3, hap, hbn⟩
        replace HD := Lib.hid (HD.out.below hbn)
        have HR1 := Lib.hid hr1; have HR3 := Lib.hid hr3; have HAP := Lib.hid hap
        clear hr1 hr3 hap hbn ha1 ha3 c_p_0 c_p_1 c_p_2 c_p_3 c_p_4 c_p_5 c_p_6 c_p_7
        have HR : Hid (w6.heap[(w.heap.size + 1 + 1)]? = some (.cells #[.int .i64 0, .slice none 0 0, .int .i64 0, .slice none 0 0, .int .i64 0, .int .i64 0, .int .i64 0, .int .i64 0] 25 (0, 0))) := HD.out.2.2.1
        have k0 : w6.cell? ⟨(w.heap.size + 1 + 1), 0, none⟩ = some (.int .i64 0) := box_cell HR 0; have y0 : w6.frozen? ⟨(w.heap.size + 1 + 1), 0, none⟩ = false := box_free HR 0
        have k1 : w6.cell? ⟨(w.heap.size + 1 + 1), 1, none⟩ = some (.slice none 0 0) := box_cell HR 1; have y1 : w6.frozen? ⟨(w.heap.size + 1 + 1), 1, none⟩ = false := box_free HR 1
        have k2 : w6.cell? ⟨(w.heap.size + 1 + 1), 2, none⟩ = some (.int .i64 0) := box_cell HR 2; have y2 : w6.frozen? ⟨(w.heap.size + 1 + 1), 2, none⟩ = false := box_free HR 2
        have k3 : w6.cell? ⟨(w.heap.size + 1 + 1), 3, none⟩ = some (.slice none 0 0) := box_cell HR 3; have y3 : w6.frozen? ⟨(w.heap.size + 1 + 1), 3, none⟩ = false := box_free HR 3
        have k4 : w6.cell? ⟨(w.heap.size + 1 + 1), 4, none⟩ = some (.int .i64 0) := box_cell HR 4; have y4 : w6.frozen? ⟨(w.heap.size + 1 + 1), 4, none⟩ = false := box_free HR 4
        have k5 : w6.cell? ⟨(w.heap.size + 1 + 1), 5, none⟩ = some (.int .i64 0) := box_cell HR 5; have y5 : w6.frozen? ⟨(w.heap.size + 1 + 1), 5, none⟩ = false := box_free HR 5
        have k6 : w6.cell? ⟨(w.heap.size + 1 + 1), 6, none⟩ = some (.int .i64 0) := box_cell HR 6; have y6 : w6.frozen? ⟨(w.heap.size + 1 + 1), 6, none⟩ = false := box_free HR 6
        have k7 : w6.cell? ⟨(w.heap.size + 1 + 1), 7, none⟩ = some (.int .i64 0) := box_cell HR 7; have y7 : w6.frozen? ⟨(w.heap.size + 1 + 1), 7, none⟩ = false := box_free HR 7
        have HZ := set8_cells HR (.int .i64 M) (.slice C1 n1 e1) (.int .i64 S) (.slice C3 n3 e3) (.int .i64 L) (.int .i64 K) (.int .i64 T) (.int .i64 E)
        have z0 := box_cell HZ 0; simp at z0
        have z1 := box_cell HZ 1; simp at z1
        have z2 := box_cell HZ 2; simp at z2
        have z3 := box_cell HZ 3; simp at z3
        have z4 := box_cell HZ 4; simp at z4
        have z5 := box_cell HZ 5; simp at z5
        have z6 := box_cell HZ 6; simp at z6
        have z7 := box_cell HZ 7; simp at z7
        go_wp2_with fail
        exact bodyPost_ret (v := .tuple #[.agg #[.int .i64 M, .slice C1 n1 e1, .int .i64 S, .slice C3 n3 e3, .int .i64 L, .int .i64 K, .int .i64 T, .int .i64 E], .bool false]) (by simp [results, Tryd.results37, go_sem, z0, z1, z2, z3, z4, z5, z6, z7]) rfl (retSome (off_row HR1.out) (off_row HR3.out) HAP.out (show w.heap.size + 3 ≤ w5.heap.size by omega) HD.out.2.2.2.2.2.2.2.2.2.out (by omega) (by omega) false)
    by_cases hk4 : kind = 4
    · subst hk4
      have c_d_0 : W2.cell? ⟨(w.heap.size + 1), 0, none⟩ = some (.int .i64 4) := box_cell B_d 0
      have c_p_5 : W2.cell? ⟨w.heap.size, 5, none⟩ = some (.int .i64 K) := box_cell HD.out.2.1 5
      cases f1 : decide (0 ≤ K) with
      | false =>
        have HR : Hid (W2.heap[(w.heap.size + 1 + 1)]? = some (.cells #[.int .i64 0, .slice none 0 0, .int .i64 0, .slice none 0 0, .int .i64 0, .int .i64 0, .int .i64 0, .int .i64 0] 25 (0, 0))) := HD.out.2.2.1
        have c_o_0 : W2.cell? ⟨g, 0, none⟩ = some (.int .i64 M) := box_cell HD.out.2.2.2.1 0
        have c_o_1 : W2.cell? ⟨g, 1, none⟩ = some (.slice B1 n1 d1) := box_cell HD.out.2.2.2.1 1
        have c_o_2 : W2.cell? ⟨g, 2, none⟩ = some (.int .i64 S) := box_cell HD.out.2.2.2.1 2
        have c_o_3 : W2.cell? ⟨g, 3, none⟩ = some (.slice B3 n3 d3) := box_cell HD.out.2.2.2.1 3
        have c_o_4 : W2.cell? ⟨g, 4, none⟩ = some (.int .i64 L) := box_cell HD.out.2.2.2.1 4
        have c_o_5 : W2.cell? ⟨g, 5, none⟩ = some (.int .i64 K) := box_cell HD.out.2.2.2.1 5
        have c_o_6 : W2.cell? ⟨g, 6, none⟩ = some (.int .i64 T) := box_cell HD.out.2.2.2.1 6
        have c_o_7 : W2.cell? ⟨g, 7, none⟩ = some (.int .i64 E) := box_cell HD.out.2.2.2.1 7
        have k0 : W2.cell? ⟨(w.heap.size + 1 + 1), 0, none⟩ = some (.int .i64 0) := box_cell HR 0; have y0 : W2.frozen? ⟨(w.heap.size + 1 + 1), 0, none⟩ = false := box_free HR 0
        have k1 : W2.cell? ⟨(w.heap.size + 1 + 1), 1, none⟩ = some (.slice none 0 0) := box_cell HR 1; have y1 : W2.frozen? ⟨(w.heap.size + 1 + 1), 1, none⟩ = false := box_free HR 1
        have k2 : W2.cell? ⟨(w.heap.size + 1 + 1), 2, none⟩ = some (.int .i64 0) := box_cell HR 2; have y2 : W2.frozen? ⟨(w.heap.size + 1 + 1), 2, none⟩ = false := box_free HR 2
        have k3 : W2.cell? ⟨(w.heap.size + 1 + 1), 3, none⟩ = some (.slice none 0 0) := box_cell HR 3; have y3 : W2.frozen? ⟨(w.heap.size + 1 + 1), 3, none⟩ = false := box_free HR 3
        have k4 : W2.cell? ⟨(w.heap.size + 1 + 1), 4, none⟩ = some (.int .i64 0) := box_cell HR 4; have y4 : W2.frozen? ⟨(w.heap.size + 1 + 1), 4, none⟩ = false := box_free HR 4
        have k5 : W2.cell? ⟨(w.heap.size + 1 + 1), 5, none⟩ = some (.int .i64 0) := box_cell HR 5; have y5 : W2.frozen? ⟨(w.heap.size + 1 + 1), 5, none⟩ = false := box_free HR 5
        have k6 : W2.cell? ⟨(w.heap.size + 1 + 1), 6, none⟩ = some (.int .i64 0) := box_cell HR 6; have y6 : W2.frozen? ⟨(w.heap.size + 1 + 1), 6, none⟩ = false := box_free HR 6
        have k7 : W2.cell? ⟨(w.heap.size + 1 + 1), 7, none⟩ = some (.int .i64 0) := box_cell HR 7; have y7 : W2.frozen? ⟨(w.heap.size + 1 + 1), 7, none⟩ = false := box_free HR 7
        have HZ := set8_cells HR (.int .i64 M) (.slice B1 n1 d1) (.int .i64 S) (.slice B3 n3 d3) (.int .i64 L) (.int .i64 K) (.int .i64 T) (.int .i64 E)
        have z0 := box_cell HZ 0; simp at z0
        have z1 := box_cell HZ 1; simp at z1
        have z2 := box_cell HZ 2; simp at z2
        have z3 := box_cell HZ 3; simp at z3
        have z4 := box_cell HZ 4; simp at z4
        have z5 := box_cell HZ 5; simp at z5
        have z6 := box_cell HZ 6; simp at z6
        have z7 := box_cell HZ 7; simp at z7
        go_wp2_with fail
        exact bodyPost_ret (v := .tuple #[.agg #[.int .i64 M, .slice B1 n1 d1, .int .i64 S, .slice B3 n3 d3, .int .i64 L, .int .i64 K, .int .i64 T, .int .i64 E], .bool false]) (by simp [results, Tryd.results37, go_sem, z0, z1, z2, z3, z4, z5, z6, z7]) rfl (retSome (HD.out.2.2.2.2.1.out) (HD.out.2.2.2.2.2.1.out) HD.out.2.2.2.2.2.2.1.out (Nat.le_refl _) HD.out.2.2.2.2.2.2.2.2.2.out (by omega) (by omega) false)
      | true =>
        have k5 : W2.cell? ⟨g, 5, none⟩ = some (.int .i64 K) := box_cell HD.out.2.2.2.1 5; have y5 : W2.frozen? ⟨g, 5, none⟩ = false := box_free HD.out.2.2.2.1 5
        replace HD : Hid (DoS w g M A1 n1 c1 S A3 n3 c3 L K T E (M) B1 n1 d1 G (S) B3 n3 d3 Q (L) ((-1)) (T) (E) (W2.setCell ⟨g, 5, none⟩ (.int .i64 (-1)))) := Lib.hid (HD.out.set5 (-1))
        have c_o_0 : (W2.setCell ⟨g, 5, none⟩ (.int .i64 (-1))).cell? ⟨g, 0, none⟩ = some (.int .i64 M) := box_cell HD.out.2.2.2.1 0
        have c_o_1 : (W2.setCell ⟨g, 5, none⟩ (.int .i64 (-1))).cell? ⟨g, 1, none⟩ = some (.slice B1 n1 d1) := box_cell HD.out.2.2.2.1 1
        have c_o_2 : (W2.setCell ⟨g, 5, none⟩ (.int .i64 (-1))).cell? ⟨g, 2, none⟩ = some (.int .i64 S) := box_cell HD.out.2.2.2.1 2
        have c_o_3 : (W2.setCell ⟨g, 5, none⟩ (.int .i64 (-1))).cell? ⟨g, 3, none⟩ = some (.slice B3 n3 d3) := box_cell HD.out.2.2.2.1 3
        have c_o_4 : (W2.setCell ⟨g, 5, none⟩ (.int .i64 (-1))).cell? ⟨g, 4, none⟩ = some (.int .i64 L) := box_cell HD.out.2.2.2.1 4
        have c_o_5 : (W2.setCell ⟨g, 5, none⟩ (.int .i64 (-1))).cell? ⟨g, 5, none⟩ = some (.int .i64 (-1)) := box_cell HD.out.2.2.2.1 5
        have c_o_6 : (W2.setCell ⟨g, 5, none⟩ (.int .i64 (-1))).cell? ⟨g, 6, none⟩ = some (.int .i64 T) := box_cell HD.out.2.2.2.1 6
        have c_o_7 : (W2.setCell ⟨g, 5, none⟩ (.int .i64 (-1))).cell? ⟨g, 7, none⟩ = some (.int .i64 E) := box_cell HD.out.2.2.2.1 7
        have hq1 : G.length = n1 := by have hq := (HD.out.2.2.2.2.1.out).1; rwa [ints_length] at hq
        have hq3 : Q.length = n3 := by have hq := (HD.out.2.2.2.2.2.1.out).1; rwa [ints_length] at hq
        have ra1 := HD.out.2.2.2.2.1.out.rd; have ra3 := HD.out.2.2.2.2.2.1.out.rd
        go_wp2_with fail
        refine (specPV (M) B1 n1 d1 G (S) B3 n3 d3 Q (L) ((-1)) (T) (E) _ hq1 (by omega) ra1 hq3 (by omega) ra3).mono ?_
        rintro e w5 ⟨rfl, hbn⟩
        replace HD := Lib.hid (HD.out.below hbn)
        clear hbn ra1 ra3 c_o_0 c_o_1 c_o_2 c_o_3 c_o_4 c_o_5 c_o_6 c_o_7
        cases hv2 : pollB (M) (S) (L) ((-1)) (T) (E) G Q with
        | true =>
          obtain ⟨hl5, hl6⟩ := pollB_len hv2
          clear hv2
          have HR : Hid (w5.heap[(w.heap.size + 1 + 1)]? = some (.cells #[.int .i64 0, .slice none 0 0, .int .i64 0, .slice none 0 0, .int .i64 0, .int .i64 0, .int .i64 0, .int .i64 0] 25 (0, 0))) := HD.out.2.2.1
          have c_o_0 : w5.cell? ⟨g, 0, none⟩ = some (.int .i64 M) := box_cell HD.out.2.2.2.1 0
          have c_o_1 : w5.cell? ⟨g, 1, none⟩ = some (.slice B1 n1 d1) := box_cell HD.out.2.2.2.1 1
          have c_o_2 : w5.cell? ⟨g, 2, none⟩ = some (.int .i64 S) := box_cell HD.out.2.2.2.1 2
          have c_o_3 : w5.cell? ⟨g, 3, none⟩ = some (.slice B3 n3 d3) := box_cell HD.out.2.2.2.1 3
          have c_o_4 : w5.cell? ⟨g, 4, none⟩ = some (.int .i64 L) := box_cell HD.out.2.2.2.1 4
          have c_o_5 : w5.cell? ⟨g, 5, none⟩ = some (.int .i64 (-1)) := box_cell HD.out.2.2.2.1 5
          have c_o_6 : w5.cell? ⟨g, 6, none⟩ = some (.int .i64 T) := box_cell HD.out.2.2.2.1 6
          have c_o_7 : w5.cell? ⟨g, 7, none⟩ = some (.int .i64 E) := box_cell HD.out.2.2.2.1 7
          have k0 : w5.cell? ⟨(w.heap.size + 1 + 1), 0, none⟩ = some (.int .i64 0) := box_cell HR 0; have y0 : w5.frozen? ⟨(w.heap.size + 1 + 1), 0, none⟩ = false := box_free HR 0
          have k1 : w5.cell? ⟨(w.heap.size + 1 + 1), 1, none⟩ = some (.slice none 0 0) := box_cell HR 1; have y1 : w5.frozen? ⟨(w.heap.size + 1 + 1), 1, none⟩ = false := box_free HR 1
          have k2 : w5.cell? ⟨(w.heap.size + 1 + 1), 2, none⟩ = some (.int .i64 0) := box_cell HR 2; have y2 : w5.frozen? ⟨(w.heap.size + 1 + 1), 2, none⟩ = false := box_free HR 2
          have k3 : w5.cell? ⟨(w.heap.size + 1 + 1), 3, none⟩ = some (.slice none 0 0) := box_cell HR 3; have y3 : w5.frozen? ⟨(w.heap.size + 1 + 1), 3, none⟩ = false := box_free HR 3
          have k4 : w5.cell? ⟨(w.heap.size + 1 + 1), 4, none⟩ = some (.int .i64 0) := box_cell HR 4; have y4 : w5.frozen? ⟨(w.heap.size + 1 + 1), 4, none⟩ = false := box_free HR 4
          have k5 : w5.cell? ⟨(w.heap.size + 1 + 1), 5, none⟩ = some (.int .i64 0) := box_cell HR 5; have y5 : w5.frozen? ⟨(w.heap.size + 1 + 1), 5, none⟩ = false := box_free HR 5
          have k6 : w5.cell? ⟨(w.heap.size + 1 + 1), 6, none⟩ = some (.int .i64 0) := box_cell HR 6; have y6 : w5.frozen? ⟨(w.heap.size + 1 + 1), 6, none⟩ = false := box_free HR 6
          have k7 : w5.cell? ⟨(w.heap.size + 1 + 1), 7, none⟩ = some (.int .i64 0) := box_cell HR 7; have y7 : w5.frozen? ⟨(w.heap.size + 1 + 1), 7, none⟩ = false := box_free HR 7
          have HZ := set8_cells HR (.int .i64 M) (.slice B1 n1 d1) (.int .i64 S) (.slice B3 n3 d3) (.int .i64 L) (.int .i64 (-1)) (.int .i64 T) (.int .i64 E)
          have z0 := box_cell HZ 0; simp at z0
          have z1 := box_cell HZ 1; simp at z1
          have z2 := box_cell HZ 2; simp at z2
          have z3 := box_cell HZ 3; simp at z3
          have z4 := box_cell HZ 4; simp at z4
          have z5 := box_cell HZ 5; simp at z5
          have z6 := box_cell HZ 6; simp at z6
          have z7 := box_cell HZ 7; simp at z7
          go_wp2_with fail
          exact bodyPost_ret (v := .tuple #[.agg #[.int .i64 M, .slice B1 n1 d1, .int .i64 S, .slice B3 n3 d3, .int .i64 L, .int .i64 (-1), .int .i64 T, .int .i64 E], .bool true]) (by simp [results, Tryd.results37, go_sem, z0, z1, z2, z3, z4, z5, z6, z7]) rfl (retSome (HD.out.2.2.2.2.1.out) (HD.out.2.2.2.2.2.1.out) HD.out.2.2.2.2.2.2.1.out (Nat.le_refl _) HD.out.2.2.2.2.2.2.2.2.2.out (by omega) (by omega) true)
        | false =>
          clear hv2
          have hg5 := blk_lt HD.out.2.2.2.1.out
          have c_p_0 : w5.cell? ⟨w.heap.size, 0, none⟩ = some (.int .i64 M) := box_cell HD.out.2.1 0
          have c_p_1 : w5.cell? ⟨w.heap.size, 1, none⟩ = some (.slice A1 n1 c1) := box_cell HD.out.2.1 1
          have c_p_2 : w5.cell? ⟨w.heap.size, 2, none⟩ = some (.int .i64 S) := box_cell HD.out.2.1 2
          have c_p_3 : w5.cell? ⟨w.heap.size, 3, none⟩ = some (.slice A3 n3 c3) := box_cell HD.out.2.1 3
          have c_p_4 : w5.cell? ⟨w.heap.size, 4, none⟩ = some (.int .i64 L) := box_cell HD.out.2.1 4
          have c_p_5 : w5.cell? ⟨w.heap.size, 5, none⟩ = some (.int .i64 K) := box_cell HD.out.2.1 5
          have c_p_6 : w5.cell? ⟨w.heap.size, 6, none⟩ = some (.int .i64 T) := box_cell HD.out.2.1 6
          have c_p_7 : w5.cell? ⟨w.heap.size, 7, none⟩ = some (.int .i64 E) := box_cell HD.out.2.1 7
          have ha1 := HA1.out.below HD.out.2.2.2.2.2.2.2.2.2.out; have ha3 := HA3.out.below HD.out.2.2.2.2.2.2.2.2.2.out
          go_wp2_with fail
          refine (copyC M A1 n1 c1 G S A3 n3 c3 Q L K T E _ HN1.out hm1 ha1 HN3.out hm3 ha3 HZ1.out HZ3.out).mono ?_
          rintro e w6 ⟨C1, e1, C3, e3, rfl, hr1, hr3, hap, hbn⟩
          replace HD := Lib.hid (HD.out.below hbn)
          have HR1 := Lib.hid hr1; have HR3 := Lib.hid hr3; have HAP := Lib.hid hap
          clear hr1 hr3 hap hbn ha1 ha3 c_p_0 c_p_1 c_p_2 c_p_3 c_p_4 c_p_5 c_p_6 c_p_7
          have HR : Hid (w6.heap[(w.heap.size + 1 + 1)]? = some (.cells #[.int .i64 0, .slice none 0 0, .int .i64 0, .slice none 0 0, .int .i64 0, .int .i64 0, .int .i64 0, .int .i64 0] 25 (0, 0))) := HD.out.2.2.1
          have k0 : w6.cell? ⟨(w.heap.size + 1 + 1), 0, none⟩ = some (.int .i64 0) := box_cell HR 0; have y0 : w6.frozen? ⟨(w.heap.size + 1 + 1), 0, none⟩ = false := box_free HR 0
          have k1 : w6.cell? ⟨(w.heap.size + 1 + 1), 1, none⟩ = some (.slice none 0 0) := box_cell HR 1; have y1 : w6.frozen? ⟨(w.heap.size + 1 + 1), 1, none⟩ = false := box_free HR 1
          have k2 : w6.cell? ⟨(w.heap.size + 1 + 1), 2, none⟩ = some (.int .i64 0) := box_cell HR 2; have y2 : w6.frozen? ⟨(w.heap.size + 1 + 1), 2, none⟩ = false := box_free HR 2
          have k3 : w6.cell? ⟨(w.heap.size + 1 + 1), 3, none⟩ = some (.slice none 0 0) := box_cell HR 3; have y3 : w6.frozen? ⟨(w.heap.size + 1 + 1), 3, none⟩ = false := box_free HR 3
          have k4 : w6.cell? ⟨(w.heap.size + 1 + 1), 4, none⟩ = some (.int .i64 0) := box_cell HR 4; have y4 : w6.frozen? ⟨(w.heap.size + 1 + 1), 4, none⟩ = false := box_free HR 4
          have k5 : w6.cell? ⟨(w.heap.size + 1 + 1), 5, none⟩ = some (.int .i64 0) := box_cell HR 5; have y5 : w6.frozen? ⟨(w.heap.size + 1 + 1), 5, none⟩ = false := box_free HR 5
          have k6 : w6.cell? ⟨(w.heap.size + 1 + 1), 6, none⟩ = some (.int .i64 0) := box_cell HR 6; have y6 : w6.frozen? ⟨(w.heap.size + 1 + 1), 6, none⟩ = false := box_free HR 6
          have k7 : w6.cell? ⟨(w.heap.size + 1 + 1), 7, none⟩ = some (.int .i64 0) := box_cell HR 7; have y7 : w6.frozen? ⟨(w.heap.size + 1 + 1), 7, none⟩ = false := box_free HR 7
          have HZ := set8_cells HR (.int .i64 M) (.slice C1 n1 e1) (.int .i64 S) (.slice C3 n3 e3) (.int .i64 L) (.int .i64 K) (.int .i64 T) (.int .i64 E)
          have z0 := box_cell HZ 0; simp at z0
          have z1 := box_cell HZ 1; simp at z1
          have z2 := box_cell HZ 2; simp at z2
          have z3 := box_cell HZ 3; simp at z3
          have z4 := box_cell HZ 4; simp at z4
          have z5 := box_cell HZ 5; simp at z5
          have z6 := box_cell HZ 6; simp at z6
          have z7 := box_cell HZ 7; simp at z7
          go_wp2_with fail
          exact bodyPost_ret (v := .tuple #[.agg #[.int .i64 M, .slice C1 n1 e1, .int .i64 S, .slice C3 n3 e3, .int .i64 L, .int .i64 K, .int .i64 T, .int .i64 E], .bool false]) (by simp [results, Tryd.results37, go_sem, z0, z1, z2, z3, z4, z5, z6, z7]) rfl (retSome (off_row HR1.out) (off_row HR3.out) HAP.out (show w.heap.size + 3 ≤ w5.heap.size by omega) HD.out.2.2.2.2.2.2.2.2.2.out (by omega) (by omega) false)
    by_cases hk5 : kind = 5
    · subst hk5
      have c_d_0 : W2.cell? ⟨(w.heap.size + 1), 0, none⟩ = some (.int .i64 5) := box_cell B_d 0
      have c_p_6 : W2.cell? ⟨w.heap.size, 6, none⟩ = some (.int .i64 T) := box_cell HD.out.2.1 6
      cases f1 : decide (0 ≤ T) with
      | false =>
        have HR : Hid (W2.heap[(w.heap.size + 1 + 1)]? = some (.cells #[.int .i64 0, .slice none 0 0, .int .i64 0, .slice none 0 0, .int .i64 0, .int .i64 0, .int .i64 0, .int .i64 0] 25 (0, 0))) := HD.out.2.2.1
        have c_o_0 : W2.cell? ⟨g, 0, none⟩ = some (.int .i64 M) := box_cell HD.out.2.2.2.1 0
        have c_o_1 : W2.cell? ⟨g, 1, none⟩ = some (.slice B1 n1 d1) := box_cell HD.out.2.2.2.1 1
        have c_o_2 : W2.cell? ⟨g, 2, none⟩ = some (.int .i64 S) := box_cell HD.out.2.2.2.1 2
        have c_o_3 : W2.cell? ⟨g, 3, none⟩ = some (.slice B3 n3 d3) := box_cell HD.out.2.2.2.1 3
        have c_o_4 : W2.cell? ⟨g, 4, none⟩ = some (.int .i64 L) := box_cell HD.out.2.2.2.1 4
        have c_o_5 : W2.cell? ⟨g, 5, none⟩ = some (.int .i64 K) := box_cell HD.out.2.2.2.1 5
        have c_o_6 : W2.cell? ⟨g, 6, none⟩ = some (.int .i64 T) := box_cell HD.out.2.2.2.1 6
        have c_o_7 : W2.cell? ⟨g, 7, none⟩ = some (.int .i64 E) := box_cell HD.out.2.2.2.1 7
        have k0 : W2.cell? ⟨(w.heap.size + 1 + 1), 0, none⟩ = some (.int .i64 0) := box_cell HR 0; have y0 : W2.frozen? ⟨(w.heap.size + 1 + 1), 0, none⟩ = false := box_free HR 0
        have k1 : W2.cell? ⟨(w.heap.size + 1 + 1), 1, none⟩ = some (.slice none 0 0) := box_cell HR 1; have y1 : W2.frozen? ⟨(w.heap.size + 1 + 1), 1, none⟩ = false := box_free HR 1
        have k2 : W2.cell? ⟨(w.heap.size + 1 + 1), 2, none⟩ = some (.int .i64 0) := box_cell HR 2; have y2 : W2.frozen? ⟨(w.heap.size + 1 + 1), 2, none⟩ = false := box_free HR 2
        have k3 : W2.cell? ⟨(w.heap.size + 1 + 1), 3, none⟩ = some (.slice none 0 0) := box_cell HR 3; have y3 : W2.frozen? ⟨(w.heap.size + 1 + 1), 3, none⟩ = false := box_free HR 3
        have k4 : W2.cell? ⟨(w.heap.size + 1 + 1), 4, none⟩ = some (.int .i64 0) := box_cell HR 4; have y4 : W2.frozen? ⟨(w.heap.size + 1 + 1), 4, none⟩ = false := box_free HR 4
        have k5 : W2.cell? ⟨(w.heap.size + 1 + 1), 5, none⟩ = some (.int .i64 0) := box_cell HR 5; have y5 : W2.frozen? ⟨(w.heap.size + 1 + 1), 5, none⟩ = false := box_free HR 5
        have k6 : W2.cell? ⟨(w.heap.size + 1 + 1), 6, none⟩ = some (.int .i64 0) := box_cell HR 6; have y6 : W2.frozen? ⟨(w.heap.size + 1 + 1), 6, none⟩ = false := box_free HR 6
        have k7 : W2.cell? ⟨(w.heap.size + 1 + 1), 7, none⟩ = some (.int .i64 0) := box_cell HR 7; have y7 : W2.frozen? ⟨(w.heap.size + 1 + 1), 7, none⟩ = false := box_free HR 7
        have HZ := set8_cells HR (.int .i64 M) (.slice B1 n1 d1) (.int .i64 S) (.slice B3 n3 d3) (.int .i64 L) (.int .i64 K) (.int .i64 T) (.int .i64 E)
        have z0 := box_cell HZ 0; simp at z0
        have z1 := box_cell HZ 1; simp at z1
        have z2 := box_cell HZ 2; simp at z2
        have z3 := box_cell HZ 3; simp at z3
        have z4 := box_cell HZ 4; simp at z4
        have z5 := box_cell HZ 5; simp at z5
        have z6 := box_cell HZ 6; simp at z6
        have z7 := box_cell HZ 7; simp at z7
        go_wp2_with fail
        exact bodyPost_ret (v := .tuple #[.agg #[.int .i64 M, .slice B1 n1 d1, .int .i64 S, .slice B3 n3 d3, .int .i64 L, .int .i64 K, .int .i64 T, .int .i64 E], .bool false]) (by simp [results, Tryd.results37, go_sem, z0, z1, z2, z3, z4, z5, z6, z7]) rfl (retSome (HD.out.2.2.2.2.1.out) (HD.out.2.2.2.2.2.1.out) HD.out.2.2.2.2.2.2.1.out (Nat.le_refl _) HD.out.2.2.2.2.2.2.2.2.2.out (by omega) (by omega) false)
      | true =>
        have k6 : W2.cell? ⟨g, 6, none⟩ = some (.int .i64 T) := box_cell HD.out.2.2.2.1 6; have y6 : W2.frozen? ⟨g, 6, none⟩ = false := box_free HD.out.2.2.2.1 6
        have k7 : W2.cell? ⟨g, 7, none⟩ = some (.int .i64 E) := box_cell HD.out.2.2.2.1 7; have y7 : W2.frozen? ⟨g, 7, none⟩ = false := box_free HD.out.2.2.2.1 7
        replace HD : Hid (DoS w g M A1 n1 c1 S A3 n3 c3 L K T E (M) B1 n1 d1 G (S) B3 n3 d3 Q (L) (K) ((-1)) ((-1)) ((W2.setCell ⟨g, 6, none⟩ (.int .i64 (-1))).setCell ⟨g, 7, none⟩ (.int .i64 (-1)))) := Lib.hid ((HD.out.set6 (-1)).set7 (-1))
        have c_o_0 : ((W2.setCell ⟨g, 6, none⟩ (.int .i64 (-1))).setCell ⟨g, 7, none⟩ (.int .i64 (-1))).cell? ⟨g, 0, none⟩ = some (.int .i64 M) := box_cell HD.out.2.2.2.1 0
        have c_o_1 : ((W2.setCell ⟨g, 6, none⟩ (.int .i64 (-1))).setCell ⟨g, 7, none⟩ (.int .i64 (-1))).cell? ⟨g, 1, none⟩ = some (.slice B1 n1 d1) := box_cell HD.out.2.2.2.1 1
        have c_o_2 : ((W2.setCell ⟨g, 6, none⟩ (.int .i64 (-1))).setCell ⟨g, 7, none⟩ (.int .i64 (-1))).cell? ⟨g, 2, none⟩ = some (.int .i64 S) := box_cell HD.out.2.2.2.1 2
        have c_o_3 : ((W2.setCell ⟨g, 6, none⟩ (.int .i64 (-1))).setCell ⟨g, 7, none⟩ (.int .i64 (-1))).cell? ⟨g, 3, none⟩ = some (.slice B3 n3 d3) := box_cell HD.out.2.2.2.1 3
        have c_o_4 : ((W2.setCell ⟨g, 6, none⟩ (.int .i64 (-1))).setCell ⟨g, 7, none⟩ (.int .i64 (-1))).cell? ⟨g, 4, none⟩ = some (.int .i64 L) := box_cell HD.out.2.2.2.1 4
        have c_o_5 : ((W2.setCell ⟨g, 6, none⟩ (.int .i64 (-1))).setCell ⟨g, 7, none⟩ (.int .i64 (-1))).cell? ⟨g, 5, none⟩ = some (.int .i64 K) := box_cell HD.out.2.2.2.1 5
        have c_o_6 : ((W2.setCell ⟨g, 6, none⟩ (.int .i64 (-1))).setCell ⟨g, 7, none⟩ (.int .i64 (-1))).cell? ⟨g, 6, none⟩ = some (.int .i64 (-1)) := box_cell HD.out.2.2.2.1 6
        have c_o_7 : ((W2.setCell ⟨g, 6, none⟩ (.int .i64 (-1))).setCell ⟨g, 7, none⟩ (.int .i64 (-1))).cell? ⟨g, 7, none⟩ = some (.int .i64 (-1)) := box_cell HD.out.2.2.2.1 7
        have hq1 : G.length = n1 := by have hq := (HD.out.2.2.2.2.1.out).1; rwa [ints_length] at hq
        have hq3 : Q.length = n3 := by have hq := (HD.out.2.2.2.2.2.1.out).1; rwa [ints_length] at hq
        have ra1 := HD.out.2.2.2.2.1.out.rd; have ra3 := HD.out.2.2.2.2.2.1.out.rd
        go_wp2_with fail
        refine (specPV (M) B1 n1 d1 G (S) B3 n3 d3 Q (L) (K) ((-1)) ((-1)) _ hq1 (by omega) ra1 hq3 (by omega) ra3).mono ?_
        rintro e w5 ⟨rfl, hbn⟩
        replace HD := Lib.hid (HD.out.below hbn)
        clear hbn ra1 ra3 c_o_0 c_o_1 c_o_2 c_o_3 c_o_4 c_o_5 c_o_6 c_o_7
        cases hv2 : pollB (M) (S) (L) (K) ((-1)) ((-1)) G Q with
        | true =>
          obtain ⟨hl5, hl6⟩ := pollB_len hv2
          clear hv2
          have HR : Hid (w5.heap[(w.heap.size + 1 + 1)]? = some (.cells #[.int .i64 0, .slice none 0 0, .int .i64 0, .slice none 0 0, .int .i64 0, .int .i64 0, .int .i64 0, .int .i64 0] 25 (0, 0))) := HD.out.2.2.1
          have c_o_0 : w5.cell? ⟨g, 0, none⟩ = some (.int .i64 M) := box_cell HD.out.2.2.2.1 0
          have c_o_1 : w5.cell? ⟨g, 1, none⟩ = some (.slice B1 n1 d1) := box_cell HD.out.2.2.2.1 1
          have c_o_2 : w5.cell? ⟨g, 2, none⟩ = some (.int .i64 S) := box_cell HD.out.2.2.2.1 2
          have c_o_3 : w5.cell? ⟨g, 3, none⟩ = some (.slice B3 n3 d3) := box_cell HD.out.2.2.2.1 3
          have c_o_4 : w5.cell? ⟨g, 4, none⟩ = some (.int .i64 L) := box_cell HD.out.2.2.2.1 4
          have c_o_5 : w5.cell? ⟨g, 5, none⟩ = some (.int .i64 K) := box_cell HD.out.2.2.2.1 5
          have c_o_6 : w5.cell? ⟨g, 6, none⟩ = some (.int .i64 (-1)) := box_cell HD.out.2.2.2.1 6
          have c_o_7 : w5.cell? ⟨g, 7, none⟩ = some (.int .i64 (-1)) := box_cell HD.out.2.2.2.1 7
          have k0 : w5.cell? ⟨(w.heap.size + 1 + 1), 0, none⟩ = some (.int .i64 0) := box_cell HR 0; have y0 : w5.frozen? ⟨(w.heap.size + 1 + 1), 0, none⟩ = false := box_free HR 0
          have k1 : w5.cell? ⟨(w.heap.size + 1 + 1), 1, none⟩ = some (.slice none 0 0) := box_cell HR 1; have y1 : w5.frozen? ⟨(w.heap.size + 1 + 1), 1, none⟩ = false := box_free HR 1
          have k2 : w5.cell? ⟨(w.heap.size + 1 + 1), 2, none⟩ = some (.int .i64 0) := box_cell HR 2; have y2 : w5.frozen? ⟨(w.heap.size + 1 + 1), 2, none⟩ = false := box_free HR 2
          have k3 : w5.cell? ⟨(w.heap.size + 1 + 1), 3, none⟩ = some (.slice none 0 0) := box_cell HR 3; have y3 : w5.frozen? ⟨(w.heap.size + 1 + 1), 3, none⟩ = false := box_free HR 3
          have k4 : w5.cell? ⟨(w.heap.size + 1 + 1), 4, none⟩ = some (.int .i64 0) := box_cell HR 4; have y4 : w5.frozen? ⟨(w.heap.size + 1 + 1), 4, none⟩ = false := box_free HR 4
          have k5 : w5.cell? ⟨(w.heap.size + 1 + 1), 5, none⟩ = some (.int .i64 0) := box_cell HR 5; have y5 : w5.frozen? ⟨(w.heap.size + 1 + 1), 5, none⟩ = false := box_free HR 5
          have k6 : w5.cell? ⟨(w.heap.size + 1 + 1), 6, none⟩ = some (.int .i64 0) := box_cell HR 6; have y6 : w5.frozen? ⟨(w.heap.size + 1 + 1), 6, none⟩ = false := box_free HR 6
          have k7 : w5.cell? ⟨(w.heap.size + 1 + 1), 7, none⟩ = some (.int .i64 0) := box_cell HR 7; have y7 : w5.frozen? ⟨(w.heap.size + 1 + 1), 7, none⟩ = false := box_free HR 7
          have HZ := set8_cells HR (.int .i64 M) (.slice B1 n1 d1) (.int .i64 S) (.slice B3 n3 d3) (.int .i64 L) (.int .i64 K) (.int .i64 (-1)) (.int .i64 (-1))
          have z0 := box_cell HZ 0; simp at z0
          have z1 := box_cell HZ 1; simp at z1
          have z2 := box_cell HZ 2; simp at z2
          have z3 := box_cell HZ 3; simp at z3
          have z4 := box_cell HZ 4; simp at z4
          have z5 := box_cell HZ 5; simp at z5
          have z6 := box_cell HZ 6; simp at z6
          have z7 := box_cell HZ 7; simp at z7
          go_wp2_with fail
          exact bodyPost_ret (v := .tuple #[.agg #[.int .i64 M, .slice B1 n1 d1, .int .i64 S, .slice B3 n3 d3, .int .i64 L, .int .i64 K, .int .i64 (-1), .int .i64 (-1)], .bool true]) (by simp [results, Tryd.results37, go_sem, z0, z1, z2, z3, z4, z5, z6, z7]) rfl (retSome (HD.out.2.2.2.2.1.out) (HD.out.2.2.2.2.2.1.out) HD.out.2.2.2.2.2.2.1.out (Nat.le_refl _) HD.out.2.2.2.2.2.2.2.2.2.out (by omega) (by omega) true)
        | false =>
          clear hv2
          have hg5 := blk_lt HD.out.2.2.2.1.out
          have c_p_0 : w5.cell? ⟨w.heap.size, 0, none⟩ = some (.int .i64 M) := box_cell HD.out.2.1 0
          have c_p_1 : w5.cell? ⟨w.heap.size, 1, none⟩ = some (.slice A1 n1 c1) := box_cell HD.out.2.1 1
          have c_p_2 : w5.cell? ⟨w.heap.size, 2, none⟩ = some (.int .i64 S) := box_cell HD.out.2.1 2
          have c_p_3 : w5.cell? ⟨w.heap.size, 3, none⟩ = some (.slice A3 n3 c3) := box_cell HD.out.2.1 3
          have c_p_4 : w5.cell? ⟨w.heap.size, 4, none⟩ = some (.int .i64 L) := box_cell HD.out.2.1 4
          have c_p_5 : w5.cell? ⟨w.heap.size, 5, none⟩ = some (.int .i64 K) := box_cell HD.out.2.1 5
          have c_p_6 : w5.cell? ⟨w.heap.size, 6, none⟩ = some (.int .i64 T) := box_cell HD.out.2.1 6
          have c_p_7 : w5.cell? ⟨w.heap.size, 7, none⟩ = some (.int .i64 E) := box_cell HD.out.2.1 7
          have ha1 := HA1.out.below HD.out.2.2.2.2.2.2.2.2.2.out; have ha3 := HA3.out.below HD.out.2.2.2.2.2.2.2.2.2.out
          go_wp2_with fail
          refine (copyC M A1 n1 c1 G S A3 n3 c3 Q L K T E _ HN1.out hm1 ha1 HN3.out hm3 ha3 HZ1.out HZ3.out).mono ?_
          rintro e w6 ⟨C1, e1, C3, e3, rfl, hr1, hr3, hap, hbn⟩
          replace HD := Lib.hid (HD.out.below hbn)
          have HR1 := Lib.hid hr1; have HR3 := Lib.hid hr3; have HAP := Lib.hid hap
          clear hr1 hr3 hap hbn ha1 ha3 c_p_0 c_p_1 c_p_2 c_p_3 c_p_4 c_p_5 c_p_6 c_p_7
          have HR : Hid (w6.heap[(w.heap.size + 1 + 1)]? = some (.cells #[.int .i64 0, .slice none 0 0, .int .i64 0, .slice none 0 0, .int .i64 0, .int .i64 0, .int .i64 0, .int .i64 0] 25 (0, 0))) := HD.out.2.2.1
          have k0 : w6.cell? ⟨(w.heap.size + 1 + 1), 0, none⟩ = some (.int .i64 0) := box_cell HR 0; have y0 : w6.frozen? ⟨(w.heap.size + 1 + 1), 0, none⟩ = false := box_free HR 0
          have k1 : w6.cell? ⟨(w.heap.size + 1 + 1), 1, none⟩ = some (.slice none 0 0) := box_cell HR 1; have y1 : w6.frozen? ⟨(w.heap.size + 1 + 1), 1, none⟩ = false := box_free HR 1
          have k2 : w6.cell? ⟨(w.heap.size + 1 + 1), 2, none⟩ = some (.int .i64 0) := box_cell HR 2; have y2 : w6.frozen? ⟨(w.heap.size + 1 + 1), 2, none⟩ = false := box_free HR 2
          have k3 : w6.cell? ⟨(w.heap.size + 1 + 1), 3, none⟩ = some (.slice none 0 0) := box_cell HR 3; have y3 : w6.frozen? ⟨(w.heap.size + 1 + 1), 3, none⟩ = false := box_free HR 3
          have k4 : w6.cell? ⟨(w.heap.size + 1 + 1), 4, none⟩ = some (.int .i64 0) := box_cell HR 4; have y4 : w6.frozen? ⟨(w.heap.size + 1 + 1), 4, none⟩ = false := box_free HR 4
          have k5 : w6.cell? ⟨(w.heap.size + 1 + 1), 5, none⟩ = some (.int .i64 0) := box_cell HR 5; have y5 : w6.frozen? ⟨(w.heap.size + 1 + 1), 5, none⟩ = false := box_free HR 5
          have k6 : w6.cell? ⟨(w.heap.size + 1 + 1), 6, none⟩ = some (.int .i64 0) := box_cell HR 6; have y6 : w6.frozen? ⟨(w.heap.size + 1 + 1), 6, none⟩ = false := box_free HR 6
          have k7 : w6.cell? ⟨(w.heap.size + 1 + 1), 7, none⟩ = some (.int .i64 0) := box_cell HR 7; have y7 : w6.frozen? ⟨(w.heap.size + 1 + 1), 7, none⟩ = false := box_free HR 7
          have HZ := set8_cells HR (.int .i64 M) (.slice C1 n1 e1) (.int .i64 S) (.slice C3 n3 e3) (.int .i64 L) (.int .i64 K) (.int .i64 T) (.int .i64 E)
          have z0 := box_cell HZ 0; simp at z0
          have z1 := box_cell HZ 1; simp at z1
          have z2 := box_cell HZ 2; simp at z2
          have z3 := box_cell HZ 3; simp at z3
          have z4 := box_cell HZ 4; simp at z4
          have z5 := box_cell HZ 5; simp at z5
          have z6 := box_cell HZ 6; simp at z6
          have z7 := box_cell HZ 7; simp at z7
          go_wp2_with fail
          exact bodyPost_ret (v := .tuple #[.agg #[.int .i64 M, .slice C1 n1 e1, .int .i64 S, .slice C3 n3 e3, .int .i64 L, .int .i64 K, .int .i64 T, .int .i64 E], .bool false]) (by simp [results, Tryd.results37, go_sem, z0, z1, z2, z3, z4, z5, z6, z7]) rfl (retSome (off_row HR1.out) (off_row HR3.out) HAP.out (show w.heap.size + 3 ≤ w5.heap.size by omega) HD.out.2.2.2.2.2.2.2.2.2.out (by omega) (by omega) false)
    by_cases hk2 : kind = 2
    · subst hk2
      have c_d_0 : W2.cell? ⟨(w.heap.size + 1), 0, none⟩ = some (.int .i64 2) := box_cell B_d 0
      have c_p_5 : W2.cell? ⟨w.heap.size, 5, none⟩ = some (.int .i64 K) := box_cell HD.out.2.1 5
      cases f1 : decide (0 ≤ K) with
      | false =>
        have HR : Hid (W2.heap[(w.heap.size + 1 + 1)]? = some (.cells #[.int .i64 0, .slice none 0 0, .int .i64 0, .slice none 0 0, .int .i64 0, .int .i64 0, .int .i64 0, .int .i64 0] 25 (0, 0))) := HD.out.2.2.1
        have c_o_0 : W2.cell? ⟨g, 0, none⟩ = some (.int .i64 M) := box_cell HD.out.2.2.2.1 0
        have c_o_1 : W2.cell? ⟨g, 1, none⟩ = some (.slice B1 n1 d1) := box_cell HD.out.2.2.2.1 1
        have c_o_2 : W2.cell? ⟨g, 2, none⟩ = some (.int .i64 S) := box_cell HD.out.2.2.2.1 2
        have c_o_3 : W2.cell? ⟨g, 3, none⟩ = some (.slice B3 n3 d3) := box_cell HD.out.2.2.2.1 3
        have c_o_4 : W2.cell? ⟨g, 4, none⟩ = some (.int .i64 L) := box_cell HD.out.2.2.2.1 4
        have c_o_5 : W2.cell? ⟨g, 5, none⟩ = some (.int .i64 K) := box_cell HD.out.2.2.2.1 5
        have c_o_6 : W2.cell? ⟨g, 6, none⟩ = some (.int .i64 T) := box_cell HD.out.2.2.2.1 6
        have c_o_7 : W2.cell? ⟨g, 7, none⟩ = some (.int .i64 E) := box_cell HD.out.2.2.2.1 7
        have k0 : W2.cell? ⟨(w.heap.size + 1 + 1), 0, none⟩ = some (.int .i64 0) := box_cell HR 0; have y0 : W2.frozen? ⟨(w.heap.size + 1 + 1), 0, none⟩ = false := box_free HR 0
        have k1 : W2.cell? ⟨(w.heap.size + 1 + 1), 1, none⟩ = some (.slice none 0 0) := box_cell HR 1; have y1 : W2.frozen? ⟨(w.heap.size + 1 + 1), 1, none⟩ = false := box_free HR 1
        have k2 : W2.cell? ⟨(w.heap.size + 1 + 1), 2, none⟩ = some (.int .i64 0) := box_cell HR 2; have y2 : W2.frozen? ⟨(w.heap.size + 1 + 1), 2, none⟩ = false := box_free HR 2
        have k3 : W2.cell? ⟨(w.heap.size + 1 + 1), 3, none⟩ = some (.slice none 0 0) := box_cell HR 3; have y3 : W2.frozen? ⟨(w.heap.size + 1 + 1), 3, none⟩ = false := box_free HR 3
        have k4 : W2.cell? ⟨(w.heap.size + 1 + 1), 4, none⟩ = some (.int .i64 0) := box_cell HR 4; have y4 : W2.frozen? ⟨(w.heap.size + 1 + 1), 4, none⟩ = false := box_free HR 4
        have k5 : W2.cell? ⟨(w.heap.size + 1 + 1), 5, none⟩ = some (.int .i64 0) := box_cell HR 5; have y5 : W2.frozen? ⟨(w.heap.size + 1 + 1), 5, none⟩ = false := box_free HR 5
        have k6 : W2.cell? ⟨(w.heap.size + 1 + 1), 6, none⟩ = some (.int .i64 0) := box_cell HR 6; have y6 : W2.frozen? ⟨(w.heap.size + 1 + 1), 6, none⟩ = false := box_free HR 6
        have k7 : W2.cell? ⟨(w.heap.size + 1 + 1), 7, none⟩ = some (.int .i64 0) := box_cell HR 7; have y7 : W2.frozen? ⟨(w.heap.size + 1 + 1), 7, none⟩ = false := box_free HR 7
        have HZ := set8_cells HR (.int .i64 M) (.slice B1 n1 d1) (.int .i64 S) (.slice B3 n3 d3) (.int .i64 L) (.int .i64 K) (.int .i64 T) (.int .i64 E)
        have z0 := box_cell HZ 0; simp at z0
        have z1 := box_cell HZ 1; simp at z1
        have z2 := box_cell HZ 2; simp at z2
        have z3 := box_cell HZ 3; simp at z3
        have z4 := box_cell HZ 4; simp at z4
        have z5 := box_cell HZ 5; simp at z5
        have z6 := box_cell HZ 6; simp at z6
        have z7 := box_cell HZ 7; simp at z7
        go_wp2_with fail
        exact bodyPost_ret (v := .tuple #[.agg #[.int .i64 M, .slice B1 n1 d1, .int .i64 S, .slice B3 n3 d3, .int .i64 L, .int .i64 K, .int .i64 T, .int .i64 E], .bool false]) (by simp [results, Tryd.results37, go_sem, z0, z1, z2, z3, z4, z5, z6, z7]) rfl (retSome (HD.out.2.2.2.2.1.out) (HD.out.2.2.2.2.2.1.out) HD.out.2.2.2.2.2.2.1.out (Nat.le_refl _) HD.out.2.2.2.2.2.2.2.2.2.out (by omega) (by omega) false)
      | true =>
        have c_o_0 : W2.cell? ⟨g, 0, none⟩ = some (.int .i64 M) := box_cell HD.out.2.2.2.1 0
        have c_o_1 : W2.cell? ⟨g, 1, none⟩ = some (.slice B1 n1 d1) := box_cell HD.out.2.2.2.1 1
        have c_o_2 : W2.cell? ⟨g, 2, none⟩ = some (.int .i64 S) := box_cell HD.out.2.2.2.1 2
        have c_o_3 : W2.cell? ⟨g, 3, none⟩ = some (.slice B3 n3 d3) := box_cell HD.out.2.2.2.1 3
        have c_o_4 : W2.cell? ⟨g, 4, none⟩ = some (.int .i64 L) := box_cell HD.out.2.2.2.1 4
        have c_o_5 : W2.cell? ⟨g, 5, none⟩ = some (.int .i64 K) := box_cell HD.out.2.2.2.1 5
        have c_o_6 : W2.cell? ⟨g, 6, none⟩ = some (.int .i64 T) := box_cell HD.out.2.2.2.1 6
        have c_o_7 : W2.cell? ⟨g, 7, none⟩ = some (.int .i64 E) := box_cell HD.out.2.2.2.1 7
        have ho3 := HD.out.2.2.2.2.2.1.out
        go_wp2_with fail
        refine (hearC (w.heap.size + 3) M B1 n1 d1 S B3 n3 d3 Q L K T E _ (by omega) ho3).mono ?_
        rintro e w4 ⟨S', D3, j3, x3, Q', L', T', E', rfl, hj3, hof, hne, hbn⟩
        have hap := HD.out.2.2.2.2.2.2.1.out
        have hn1 := HD.out.2.2.2.2.2.2.2.1.out; have hn3 := HD.out.2.2.2.2.2.2.2.2.1.out
        replace HD := Lib.hid (HD.out.below hbn)
        have hg0 := HD.out.1
        clear ho3 hbn c_o_0 c_o_1 c_o_2 c_o_3 c_o_4 c_o_5 c_o_6 c_o_7
        have k0 : w4.cell? ⟨g, 0, none⟩ = some (.int .i64 M) := box_cell HD.out.2.2.2.1 0; have y0 : w4.frozen? ⟨g, 0, none⟩ = false := box_free HD.out.2.2.2.1 0
        have k1 : w4.cell? ⟨g, 1, none⟩ = some (.slice B1 n1 d1) := box_cell HD.out.2.2.2.1 1; have y1 : w4.frozen? ⟨g, 1, none⟩ = false := box_free HD.out.2.2.2.1 1
        have k2 : w4.cell? ⟨g, 2, none⟩ = some (.int .i64 S) := box_cell HD.out.2.2.2.1 2; have y2 : w4.frozen? ⟨g, 2, none⟩ = false := box_free HD.out.2.2.2.1 2
        have k3 : w4.cell? ⟨g, 3, none⟩ = some (.slice B3 n3 d3) := box_cell HD.out.2.2.2.1 3; have y3 : w4.frozen? ⟨g, 3, none⟩ = false := box_free HD.out.2.2.2.1 3
        have k4 : w4.cell? ⟨g, 4, none⟩ = some (.int .i64 L) := box_cell HD.out.2.2.2.1 4; have y4 : w4.frozen? ⟨g, 4, none⟩ = false := box_free HD.out.2.2.2.1 4
        have k5 : w4.cell? ⟨g, 5, none⟩ = some (.int .i64 K) := box_cell HD.out.2.2.2.1 5; have y5 : w4.frozen? ⟨g, 5, none⟩ = false := box_free HD.out.2.2.2.1 5
        have k6 : w4.cell? ⟨g, 6, none⟩ = some (.int .i64 T) := box_cell HD.out.2.2.2.1 6; have y6 : w4.frozen? ⟨g, 6, none⟩ = false := box_free HD.out.2.2.2.1 6
        have k7 : w4.cell? ⟨g, 7, none⟩ = some (.int .i64 E) := box_cell HD.out.2.2.2.1 7; have y7 : w4.frozen? ⟨g, 7, none⟩ = false := box_free HD.out.2.2.2.1 7
        replace HD : Hid (DoS w g M A1 n1 c1 S A3 n3 c3 L K T E (M) B1 n1 d1 G (S') D3 j3 x3 Q' (L') (K) (T') (E') ((((((((w4.setCell ⟨g, 0, none⟩ (.int .i64 M)).setCell ⟨g, 1, none⟩ (.slice B1 n1 d1)).setCell ⟨g, 2, none⟩ (.int .i64 S')).setCell ⟨g, 3, none⟩ (.slice D3 j3 x3)).setCell ⟨g, 4, none⟩ (.int .i64 L')).setCell ⟨g, 5, none⟩ (.int .i64 K)).setCell ⟨g, 6, none⟩ (.int .i64 T')).setCell ⟨g, 7, none⟩ (.int .i64 E'))) := Lib.hid (DoS.all HD.out HD.out.2.2.2.2.1.out hof (fun a b e1 e2 => by obtain ⟨a', e3, e4⟩ := hne b e2; rw [← e4]; exact hap a a' e1 e3) hn1 (fun b e => by obtain ⟨a', e3, e4⟩ := hne b e; rw [← e4]; exact hn3 a' e3))
        clear hof hne hap hn1 hn3
        have c_o_0 : ((((((((w4.setCell ⟨g, 0, none⟩ (.int .i64 M)).setCell ⟨g, 1, none⟩ (.slice B1 n1 d1)).setCell ⟨g, 2, none⟩ (.int .i64 S')).setCell ⟨g, 3, none⟩ (.slice D3 j3 x3)).setCell ⟨g, 4, none⟩ (.int .i64 L')).setCell ⟨g, 5, none⟩ (.int .i64 K)).setCell ⟨g, 6, none⟩ (.int .i64 T')).setCell ⟨g, 7, none⟩ (.int .i64 E')).cell? ⟨g, 0, none⟩ = some (.int .i64 M) := box_cell HD.out.2.2.2.1 0
        have c_o_1 : ((((((((w4.setCell ⟨g, 0, none⟩ (.int .i64 M)).setCell ⟨g, 1, none⟩ (.slice B1 n1 d1)).setCell ⟨g, 2, none⟩ (.int .i64 S')).setCell ⟨g, 3, none⟩ (.slice D3 j3 x3)).setCell ⟨g, 4, none⟩ (.int .i64 L')).setCell ⟨g, 5, none⟩ (.int .i64 K)).setCell ⟨g, 6, none⟩ (.int .i64 T')).setCell ⟨g, 7, none⟩ (.int .i64 E')).cell? ⟨g, 1, none⟩ = some (.slice B1 n1 d1) := box_cell HD.out.2.2.2.1 1
        have c_o_2 : ((((((((w4.setCell ⟨g, 0, none⟩ (.int .i64 M)).setCell ⟨g, 1, none⟩ (.slice B1 n1 d1)).setCell ⟨g, 2, none⟩ (.int .i64 S')).setCell ⟨g, 3, none⟩ (.slice D3 j3 x3)).setCell ⟨g, 4, none⟩ (.int .i64 L')).setCell ⟨g, 5, none⟩ (.int .i64 K)).setCell ⟨g, 6, none⟩ (.int .i64 T')).setCell ⟨g, 7, none⟩ (.int .i64 E')).cell? ⟨g, 2, none⟩ = some (.int .i64 S') := box_cell HD.out.2.2.2.1 2
        have c_o_3 : ((((((((w4.setCell ⟨g, 0, none⟩ (.int .i64 M)).setCell ⟨g, 1, none⟩ (.slice B1 n1 d1)).setCell ⟨g, 2, none⟩ (.int .i64 S')).setCell ⟨g, 3, none⟩ (.slice D3 j3 x3)).setCell ⟨g, 4, none⟩ (.int .i64 L')).setCell ⟨g, 5, none⟩ (.int .i64 K)).setCell ⟨g, 6, none⟩ (.int .i64 T')).setCell ⟨g, 7, none⟩ (.int .i64 E')).cell? ⟨g, 3, none⟩ = some (.slice D3 j3 x3) := box_cell HD.out.2.2.2.1 3
        have c_o_4 : ((((((((w4.setCell ⟨g, 0, none⟩ (.int .i64 M)).setCell ⟨g, 1, none⟩ (.slice B1 n1 d1)).setCell ⟨g, 2, none⟩ (.int .i64 S')).setCell ⟨g, 3, none⟩ (.slice D3 j3 x3)).setCell ⟨g, 4, none⟩ (.int .i64 L')).setCell ⟨g, 5, none⟩ (.int .i64 K)).setCell ⟨g, 6, none⟩ (.int .i64 T')).setCell ⟨g, 7, none⟩ (.int .i64 E')).cell? ⟨g, 4, none⟩ = some (.int .i64 L') := box_cell HD.out.2.2.2.1 4
        have c_o_5 : ((((((((w4.setCell ⟨g, 0, none⟩ (.int .i64 M)).setCell ⟨g, 1, none⟩ (.slice B1 n1 d1)).setCell ⟨g, 2, none⟩ (.int .i64 S')).setCell ⟨g, 3, none⟩ (.slice D3 j3 x3)).setCell ⟨g, 4, none⟩ (.int .i64 L')).setCell ⟨g, 5, none⟩ (.int .i64 K)).setCell ⟨g, 6, none⟩ (.int .i64 T')).setCell ⟨g, 7, none⟩ (.int .i64 E')).cell? ⟨g, 5, none⟩ = some (.int .i64 K) := box_cell HD.out.2.2.2.1 5
        have c_o_6 : ((((((((w4.setCell ⟨g, 0, none⟩ (.int .i64 M)).setCell ⟨g, 1, none⟩ (.slice B1 n1 d1)).setCell ⟨g, 2, none⟩ (.int .i64 S')).setCell ⟨g, 3, none⟩ (.slice D3 j3 x3)).setCell ⟨g, 4, none⟩ (.int .i64 L')).setCell ⟨g, 5, none⟩ (.int .i64 K)).setCell ⟨g, 6, none⟩ (.int .i64 T')).setCell ⟨g, 7, none⟩ (.int .i64 E')).cell? ⟨g, 6, none⟩ = some (.int .i64 T') := box_cell HD.out.2.2.2.1 6
        have c_o_7 : ((((((((w4.setCell ⟨g, 0, none⟩ (.int .i64 M)).setCell ⟨g, 1, none⟩ (.slice B1 n1 d1)).setCell ⟨g, 2, none⟩ (.int .i64 S')).setCell ⟨g, 3, none⟩ (.slice D3 j3 x3)).setCell ⟨g, 4, none⟩ (.int .i64 L')).setCell ⟨g, 5, none⟩ (.int .i64 K)).setCell ⟨g, 6, none⟩ (.int .i64 T')).setCell ⟨g, 7, none⟩ (.int .i64 E')).cell? ⟨g, 7, none⟩ = some (.int .i64 E') := box_cell HD.out.2.2.2.1 7
        have hq1 : G.length = n1 := by have hq := (HD.out.2.2.2.2.1.out).1; rwa [ints_length] at hq
        have hq3 : Q'.length = j3 := by have hq := (HD.out.2.2.2.2.2.1.out).1; rwa [ints_length] at hq
        have ra1 := HD.out.2.2.2.2.1.out.rd; have ra3 := HD.out.2.2.2.2.2.1.out.rd
        go_wp2_with fail
        refine (specPV (M) B1 n1 d1 G (S') D3 j3 x3 Q' (L') (K) (T') (E') _ hq1 (by omega) ra1 hq3 (by omega) ra3).mono ?_
        rintro e w5 ⟨rfl, hbn⟩
        replace HD := Lib.hid (HD.out.below hbn)
        clear hbn ra1 ra3 c_o_0 c_o_1 c_o_2 c_o_3 c_o_4 c_o_5 c_o_6 c_o_7
        cases hv2 : pollB (M) (S') (L') (K) (T') (E') G Q' with
        | true =>
          obtain ⟨hl5, hl6⟩ := pollB_len hv2
          clear hv2
          have HR : Hid (w5.heap[(w.heap.size + 1 + 1)]? = some (.cells #[.int .i64 0, .slice none 0 0, .int .i64 0, .slice none 0 0, .int .i64 0, .int .i64 0, .int .i64 0, .int .i64 0] 25 (0, 0))) := HD.out.2.2.1
          have c_o_0 : w5.cell? ⟨g, 0, none⟩ = some (.int .i64 M) := box_cell HD.out.2.2.2.1 0
          have c_o_1 : w5.cell? ⟨g, 1, none⟩ = some (.slice B1 n1 d1) := box_cell HD.out.2.2.2.1 1
          have c_o_2 : w5.cell? ⟨g, 2, none⟩ = some (.int .i64 S') := box_cell HD.out.2.2.2.1 2
          have c_o_3 : w5.cell? ⟨g, 3, none⟩ = some (.slice D3 j3 x3) := box_cell HD.out.2.2.2.1 3
          have c_o_4 : w5.cell? ⟨g, 4, none⟩ = some (.int .i64 L') := box_cell HD.out.2.2.2.1 4
          have c_o_5 : w5.cell? ⟨g, 5, none⟩ = some (.int .i64 K) := box_cell HD.out.2.2.2.1 5
          have c_o_6 : w5.cell? ⟨g, 6, none⟩ = some (.int .i64 T') := box_cell HD.out.2.2.2.1 6
          have c_o_7 : w5.cell? ⟨g, 7, none⟩ = some (.int .i64 E') := box_cell HD.out.2.2.2.1 7
          have k0 : w5.cell? ⟨(w.heap.size + 1 + 1), 0, none⟩ = some (.int .i64 0) := box_cell HR 0; have y0 : w5.frozen? ⟨(w.heap.size + 1 + 1), 0, none⟩ = false := box_free HR 0
          have k1 : w5.cell? ⟨(w.heap.size + 1 + 1), 1, none⟩ = some (.slice none 0 0) := box_cell HR 1; have y1 : w5.frozen? ⟨(w.heap.size + 1 + 1), 1, none⟩ = false := box_free HR 1
          have k2 : w5.cell? ⟨(w.heap.size + 1 + 1), 2, none⟩ = some (.int .i64 0) := box_cell HR 2; have y2 : w5.frozen? ⟨(w.heap.size + 1 + 1), 2, none⟩ = false := box_free HR 2
          have k3 : w5.cell? ⟨(w.heap.size + 1 + 1), 3, none⟩ = some (.slice none 0 0) := box_cell HR 3; have y3 : w5.frozen? ⟨(w.heap.size + 1 + 1), 3, none⟩ = false := box_free HR 3
          have k4 : w5.cell? ⟨(w.heap.size + 1 + 1), 4, none⟩ = some (.int .i64 0) := box_cell HR 4; have y4 : w5.frozen? ⟨(w.heap.size + 1 + 1), 4, none⟩ = false := box_free HR 4
          have k5 : w5.cell? ⟨(w.heap.size + 1 + 1), 5, none⟩ = some (.int .i64 0) := box_cell HR 5; have y5 : w5.frozen? ⟨(w.heap.size + 1 + 1), 5, none⟩ = false := box_free HR 5
          have k6 : w5.cell? ⟨(w.heap.size + 1 + 1), 6, none⟩ = some (.int .i64 0) := box_cell HR 6; have y6 : w5.frozen? ⟨(w.heap.size + 1 + 1), 6, none⟩ = false := box_free HR 6
          have k7 : w5.cell? ⟨(w.heap.size + 1 + 1), 7, none⟩ = some (.int .i64 0) := box_cell HR 7; have y7 : w5.frozen? ⟨(w.heap.size + 1 + 1), 7, none⟩ = false := box_free HR 7
          have HZ := set8_cells HR (.int .i64 M) (.slice B1 n1 d1) (.int .i64 S') (.slice D3 j3 x3) (.int .i64 L') (.int .i64 K) (.int .i64 T') (.int .i64 E')
          have z0 := box_cell HZ 0; simp at z0
          have z1 := box_cell HZ 1; simp at z1
          have z2 := box_cell HZ 2; simp at z2
          have z3 := box_cell HZ 3; simp at z3
          have z4 := box_cell HZ 4; simp at z4
          have z5 := box_cell HZ 5; simp at z5
          have z6 := box_cell HZ 6; simp at z6
          have z7 := box_cell HZ 7; simp at z7
          go_wp2_with fail
          exact bodyPost_ret (v := .tuple #[.agg #[.int .i64 M, .slice B1 n1 d1, .int .i64 S', .slice D3 j3 x3, .int .i64 L', .int .i64 K, .int .i64 T', .int .i64 E'], .bool true]) (by simp [results, Tryd.results37, go_sem, z0, z1, z2, z3, z4, z5, z6, z7]) rfl (retSome (HD.out.2.2.2.2.1.out) (HD.out.2.2.2.2.2.1.out) HD.out.2.2.2.2.2.2.1.out (Nat.le_refl _) HD.out.2.2.2.2.2.2.2.2.2.out (by omega) (by omega) true)
        | false =>
          clear hv2
          have hg5 := blk_lt HD.out.2.2.2.1.out
          have c_p_0 : w5.cell? ⟨w.heap.size, 0, none⟩ = some (.int .i64 M) := box_cell HD.out.2.1 0
          have c_p_1 : w5.cell? ⟨w.heap.size, 1, none⟩ = some (.slice A1 n1 c1) := box_cell HD.out.2.1 1
          have c_p_2 : w5.cell? ⟨w.heap.size, 2, none⟩ = some (.int .i64 S) := box_cell HD.out.2.1 2
          have c_p_3 : w5.cell? ⟨w.heap.size, 3, none⟩ = some (.slice A3 n3 c3) := box_cell HD.out.2.1 3
          have c_p_4 : w5.cell? ⟨w.heap.size, 4, none⟩ = some (.int .i64 L) := box_cell HD.out.2.1 4
          have c_p_5 : w5.cell? ⟨w.heap.size, 5, none⟩ = some (.int .i64 K) := box_cell HD.out.2.1 5
          have c_p_6 : w5.cell? ⟨w.heap.size, 6, none⟩ = some (.int .i64 T) := box_cell HD.out.2.1 6
          have c_p_7 : w5.cell? ⟨w.heap.size, 7, none⟩ = some (.int .i64 E) := box_cell HD.out.2.1 7
          have ha1 := HA1.out.below HD.out.2.2.2.2.2.2.2.2.2.out; have ha3 := HA3.out.below HD.out.2.2.2.2.2.2.2.2.2.out
          go_wp2_with fail
          refine (copyC M A1 n1 c1 G S A3 n3 c3 Q L K T E _ HN1.out hm1 ha1 HN3.out hm3 ha3 HZ1.out HZ3.out).mono ?_
          rintro e w6 ⟨C1, e1, C3, e3, rfl, hr1, hr3, hap, hbn⟩
          replace HD := Lib.hid (HD.out.below hbn)
          have HR1 := Lib.hid hr1; have HR3 := Lib.hid hr3; have HAP := Lib.hid hap
          clear hr1 hr3 hap hbn ha1 ha3 c_p_0 c_p_1 c_p_2 c_p_3 c_p_4 c_p_5 c_p_6 c_p_7
          have HR : Hid (w6.heap[(w.heap.size + 1 + 1)]? = some (.cells #[.int .i64 0, .slice none 0 0, .int .i64 0, .slice none 0 0, .int .i64 0, .int .i64 0, .int .i64 0, .int .i64 0] 25 (0, 0))) := HD.out.2.2.1
          have k0 : w6.cell? ⟨(w.heap.size + 1 + 1), 0, none⟩ = some (.int .i64 0) := box_cell HR 0; have y0 : w6.frozen? ⟨(w.heap.size + 1 + 1), 0, none⟩ = false := box_free HR 0
          have k1 : w6.cell? ⟨(w.heap.size + 1 + 1), 1, none⟩ = some (.slice none 0 0) := box_cell HR 1; have y1 : w6.frozen? ⟨(w.heap.size + 1 + 1), 1, none⟩ = false := box_free HR 1
          have k2 : w6.cell? ⟨(w.heap.size + 1 + 1), 2, none⟩ = some (.int .i64 0) := box_cell HR 2; have y2 : w6.frozen? ⟨(w.heap.size + 1 + 1), 2, none⟩ = false := box_free HR 2
          have k3 : w6.cell? ⟨(w.heap.size + 1 + 1), 3, none⟩ = some (.slice none 0 0) := box_cell HR 3; have y3 : w6.frozen? ⟨(w.heap.size + 1 + 1), 3, none⟩ = false := box_free HR 3
          have k4 : w6.cell? ⟨(w.heap.size + 1 + 1), 4, none⟩ = some (.int .i64 0) := box_cell HR 4; have y4 : w6.frozen? ⟨(w.heap.size + 1 + 1), 4, none⟩ = false := box_free HR 4
          have k5 : w6.cell? ⟨(w.heap.size + 1 + 1), 5, none⟩ = some (.int .i64 0) := box_cell HR 5; have y5 : w6.frozen? ⟨(w.heap.size + 1 + 1), 5, none⟩ = false := box_free HR 5
          have k6 : w6.cell? ⟨(w.heap.size + 1 + 1), 6, none⟩ = some (.int .i64 0) := box_cell HR 6; have y6 : w6.frozen? ⟨(w.heap.size + 1 + 1), 6, none⟩ = false := box_free HR 6
          have k7 : w6.cell? ⟨(w.heap.size + 1 + 1), 7, none⟩ = some (.int .i64 0) := box_cell HR 7; have y7 : w6.frozen? ⟨(w.heap.size + 1 + 1), 7, none⟩ = false := box_free HR 7
          have HZ := set8_cells HR (.int .i64 M) (.slice C1 n1 e1) (.int .i64 S) (.slice C3 n3 e3) (.int .i64 L) (.int .i64 K) (.int .i64 T) (.int .i64 E)
          have z0 := box_cell HZ 0; simp at z0
          have z1 := box_cell HZ 1; simp at z1
          have z2 := box_cell HZ 2; simp at z2
          have z3 := box_cell HZ 3; simp at z3
          have z4 := box_cell HZ 4; simp at z4
          have z5 := box_cell HZ 5; simp at z5
          have z6 := box_cell HZ 6; simp at z6
          have z7 := box_cell HZ 7; simp at z7
          go_wp2_with fail
          exact bodyPost_ret (v := .tuple #[.agg #[.int .i64 M, .slice C1 n1 e1, .int .i64 S, .slice C3 n3 e3, .int .i64 L, .int .i64 K, .int .i64 T, .int .i64 E], .bool false]) (by simp [results, Tryd.results37, go_sem, z0, z1, z2, z3, z4, z5, z6, z7]) rfl (retSome (off_row HR1.out) (off_row HR3.out) HAP.out (show w.heap.size + 3 ≤ w5.heap.size by omega) HD.out.2.2.2.2.2.2.2.2.2.out (by omega) (by omega) false)
    by_cases hk3 : kind = 3
    · subst hk3
      have c_d_0 : W2.cell? ⟨(w.heap.size + 1), 0, none⟩ = some (.int .i64 3) := box_cell B_d 0
      have c_p_6 : W2.cell? ⟨w.heap.size, 6, none⟩ = some (.int .i64 T) := box_cell HD.out.2.1 6
      cases f1 : decide (0 ≤ T) with
      | false =>
        have HR : Hid (W2.heap[(w.heap.size + 1 + 1)]? = some (.cells #[.int .i64 0, .slice none 0 0, .int .i64 0, .slice none 0 0, .int .i64 0, .int .i64 0, .int .i64 0, .int .i64 0] 25 (0, 0))) := HD.out.2.2.1
        have c_o_0 : W2.cell? ⟨g, 0, none⟩ = some (.int .i64 M) := box_cell HD.out.2.2.2.1 0
        have c_o_1 : W2.cell? ⟨g, 1, none⟩ = some (.slice B1 n1 d1) := box_cell HD.out.2.2.2.1 1
        have c_o_2 : W2.cell? ⟨g, 2, none⟩ = some (.int .i64 S) := box_cell HD.out.2.2.2.1 2
        have c_o_3 : W2.cell? ⟨g, 3, none⟩ = some (.slice B3 n3 d3) := box_cell HD.out.2.2.2.1 3
        have c_o_4 : W2.cell? ⟨g, 4, none⟩ = some (.int .i64 L) := box_cell HD.out.2.2.2.1 4
        have c_o_5 : W2.cell? ⟨g, 5, none⟩ = some (.int .i64 K) := box_cell HD.out.2.2.2.1 5
        have c_o_6 : W2.cell? ⟨g, 6, none⟩ = some (.int .i64 T) := box_cell HD.out.2.2.2.1 6
        have c_o_7 : W2.cell? ⟨g, 7, none⟩ = some (.int .i64 E) := box_cell HD.out.2.2.2.1 7
        have k0 : W2.cell? ⟨(w.heap.size + 1 + 1), 0, none⟩ = some (.int .i64 0) := box_cell HR 0; have y0 : W2.frozen? ⟨(w.heap.size + 1 + 1), 0, none⟩ = false := box_free HR 0
        have k1 : W2.cell? ⟨(w.heap.size + 1 + 1), 1, none⟩ = some (.slice none 0 0) := box_cell HR 1; have y1 : W2.frozen? ⟨(w.heap.size + 1 + 1), 1, none⟩ = false := box_free HR 1
        have k2 : W2.cell? ⟨(w.heap.size + 1 + 1), 2, none⟩ = some (.int .i64 0) := box_cell HR 2; have y2 : W2.frozen? ⟨(w.heap.size + 1 + 1), 2, none⟩ = false := box_free HR 2
        have k3 : W2.cell? ⟨(w.heap.size + 1 + 1), 3, none⟩ = some (.slice none 0 0) := box_cell HR 3; have y3 : W2.frozen? ⟨(w.heap.size + 1 + 1), 3, none⟩ = false := box_free HR 3
        have k4 : W2.cell? ⟨(w.heap.size + 1 + 1), 4, none⟩ = some (.int .i64 0) := box_cell HR 4; have y4 : W2.frozen? ⟨(w.heap.size + 1 + 1), 4, none⟩ = false := box_free HR 4
        have k5 : W2.cell? ⟨(w.heap.size + 1 + 1), 5, none⟩ = some (.int .i64 0) := box_cell HR 5; have y5 : W2.frozen? ⟨(w.heap.size + 1 + 1), 5, none⟩ = false := box_free HR 5
        have k6 : W2.cell? ⟨(w.heap.size + 1 + 1), 6, none⟩ = some (.int .i64 0) := box_cell HR 6; have y6 : W2.frozen? ⟨(w.heap.size + 1 + 1), 6, none⟩ = false := box_free HR 6
        have k7 : W2.cell? ⟨(w.heap.size + 1 + 1), 7, none⟩ = some (.int .i64 0) := box_cell HR 7; have y7 : W2.frozen? ⟨(w.heap.size + 1 + 1), 7, none⟩ = false := box_free HR 7
        have HZ := set8_cells HR (.int .i64 M) (.slice B1 n1 d1) (.int .i64 S) (.slice B3 n3 d3) (.int .i64 L) (.int .i64 K) (.int .i64 T) (.int .i64 E)
        have z0 := box_cell HZ 0; simp at z0
        have z1 := box_cell HZ 1; simp at z1
        have z2 := box_cell HZ 2; simp at z2
        have z3 := box_cell HZ 3; simp at z3
        have z4 := box_cell HZ 4; simp at z4
        have z5 := box_cell HZ 5; simp at z5
        have z6 := box_cell HZ 6; simp at z6
        have z7 := box_cell HZ 7; simp at z7
        go_wp2_with fail
        exact bodyPost_ret (v := .tuple #[.agg #[.int .i64 M, .slice B1 n1 d1, .int .i64 S, .slice B3 n3 d3, .int .i64 L, .int .i64 K, .int .i64 T, .int .i64 E], .bool false]) (by simp [results, Tryd.results37, go_sem, z0, z1, z2, z3, z4, z5, z6, z7]) rfl (retSome (HD.out.2.2.2.2.1.out) (HD.out.2.2.2.2.2.1.out) HD.out.2.2.2.2.2.2.1.out (Nat.le_refl _) HD.out.2.2.2.2.2.2.2.2.2.out (by omega) (by omega) false)
      | true =>
        have c_o_0 : W2.cell? ⟨g, 0, none⟩ = some (.int .i64 M) := box_cell HD.out.2.2.2.1 0
        have c_o_1 : W2.cell? ⟨g, 1, none⟩ = some (.slice B1 n1 d1) := box_cell HD.out.2.2.2.1 1
        have c_o_2 : W2.cell? ⟨g, 2, none⟩ = some (.int .i64 S) := box_cell HD.out.2.2.2.1 2
        have c_o_3 : W2.cell? ⟨g, 3, none⟩ = some (.slice B3 n3 d3) := box_cell HD.out.2.2.2.1 3
        have c_o_4 : W2.cell? ⟨g, 4, none⟩ = some (.int .i64 L) := box_cell HD.out.2.2.2.1 4
        have c_o_5 : W2.cell? ⟨g, 5, none⟩ = some (.int .i64 K) := box_cell HD.out.2.2.2.1 5
        have c_o_6 : W2.cell? ⟨g, 6, none⟩ = some (.int .i64 T) := box_cell HD.out.2.2.2.1 6
        have c_o_7 : W2.cell? ⟨g, 7, none⟩ = some (.int .i64 E) := box_cell HD.out.2.2.2.1 7
        have ho1 := HD.out.2.2.2.2.1.out
        have hbz : w.heap.size + 3 ≤ W2.heap.size := by have := blk_lt HD.out.2.2.2.1.out; omega
        go_wp2_with fail
        refine (takeC (w.heap.size + 3) M B1 n1 d1 G S B3 n3 d3 L K T E _ (by omega) hbz ho1).mono ?_
        rintro e w4 ⟨M', D1, j1, x1, G', rfl, hj1, hof, hap2, hg4⟩
        obtain ⟨HX, HDn⟩ := DoS.take (M2 := M') HD.out hg4 hof hap2
        clear ho1 hbz hof hap2 hg4 HD c_o_0 c_o_1 c_o_2 c_o_3 c_o_4 c_o_5 c_o_6 c_o_7
        have HD := Lib.hid HDn
        clear HDn
        have k0 : w4.cell? ⟨g, 0, none⟩ = some (.int .i64 M) := box_cell HX 0; have y0 : w4.frozen? ⟨g, 0, none⟩ = false := box_free HX 0
        have k1 : w4.cell? ⟨g, 1, none⟩ = some (.slice B1 n1 d1) := box_cell HX 1; have y1 : w4.frozen? ⟨g, 1, none⟩ = false := box_free HX 1
        have k2 : w4.cell? ⟨g, 2, none⟩ = some (.int .i64 S) := box_cell HX 2; have y2 : w4.frozen? ⟨g, 2, none⟩ = false := box_free HX 2
        have k3 : w4.cell? ⟨g, 3, none⟩ = some (.slice B3 n3 d3) := box_cell HX 3; have y3 : w4.frozen? ⟨g, 3, none⟩ = false := box_free HX 3
        have k4 : w4.cell? ⟨g, 4, none⟩ = some (.int .i64 L) := box_cell HX 4; have y4 : w4.frozen? ⟨g, 4, none⟩ = false := box_free HX 4
        have k5 : w4.cell? ⟨g, 5, none⟩ = some (.int .i64 K) := box_cell HX 5; have y5 : w4.frozen? ⟨g, 5, none⟩ = false := box_free HX 5
        have k6 : w4.cell? ⟨g, 6, none⟩ = some (.int .i64 T) := box_cell HX 6; have y6 : w4.frozen? ⟨g, 6, none⟩ = false := box_free HX 6
        have k7 : w4.cell? ⟨g, 7, none⟩ = some (.int .i64 E) := box_cell HX 7; have y7 : w4.frozen? ⟨g, 7, none⟩ = false := box_free HX 7
        replace HD : Hid (DoS w g M A1 n1 c1 S A3 n3 c3 L K T E (M') D1 j1 x1 G' (S) B3 n3 d3 Q (L) (K) (T) (E) ((((((((w4.setCell ⟨g, 0, none⟩ (.int .i64 M')).setCell ⟨g, 1, none⟩ (.slice D1 j1 x1)).setCell ⟨g, 2, none⟩ (.int .i64 S)).setCell ⟨g, 3, none⟩ (.slice B3 n3 d3)).setCell ⟨g, 4, none⟩ (.int .i64 L)).setCell ⟨g, 5, none⟩ (.int .i64 K)).setCell ⟨g, 6, none⟩ (.int .i64 T)).setCell ⟨g, 7, none⟩ (.int .i64 E))) := Lib.hid (HD.out)
        clear HX
        have c_o_0 : ((((((((w4.setCell ⟨g, 0, none⟩ (.int .i64 M')).setCell ⟨g, 1, none⟩ (.slice D1 j1 x1)).setCell ⟨g, 2, none⟩ (.int .i64 S)).setCell ⟨g, 3, none⟩ (.slice B3 n3 d3)).setCell ⟨g, 4, none⟩ (.int .i64 L)).setCell ⟨g, 5, none⟩ (.int .i64 K)).setCell ⟨g, 6, none⟩ (.int .i64 T)).setCell ⟨g, 7, none⟩ (.int .i64 E)).cell? ⟨g, 0, none⟩ = some (.int .i64 M') := box_cell HD.out.2.2.2.1 0
        have c_o_1 : ((((((((w4.setCell ⟨g, 0, none⟩ (.int .i64 M')).setCell ⟨g, 1, none⟩ (.slice D1 j1 x1)).setCell ⟨g, 2, none⟩ (.int .i64 S)).setCell ⟨g, 3, none⟩ (.slice B3 n3 d3)).setCell ⟨g, 4, none⟩ (.int .i64 L)).setCell ⟨g, 5, none⟩ (.int .i64 K)).setCell ⟨g, 6, none⟩ (.int .i64 T)).setCell ⟨g, 7, none⟩ (.int .i64 E)).cell? ⟨g, 1, none⟩ = some (.slice D1 j1 x1) := box_cell HD.out.2.2.2.1 1
        have c_o_2 : ((((((((w4.setCell ⟨g, 0, none⟩ (.int .i64 M')).setCell ⟨g, 1, none⟩ (.slice D1 j1 x1)).setCell ⟨g, 2, none⟩ (.int .i64 S)).setCell ⟨g, 3, none⟩ (.slice B3 n3 d3)).setCell ⟨g, 4, none⟩ (.int .i64 L)).setCell ⟨g, 5, none⟩ (.int .i64 K)).setCell ⟨g, 6, none⟩ (.int .i64 T)).setCell ⟨g, 7, none⟩ (.int .i64 E)).cell? ⟨g, 2, none⟩ = some (.int .i64 S) := box_cell HD.out.2.2.2.1 2
        have c_o_3 : ((((((((w4.setCell ⟨g, 0, none⟩ (.int .i64 M')).setCell ⟨g, 1, none⟩ (.slice D1 j1 x1)).setCell ⟨g, 2, none⟩ (.int .i64 S)).setCell ⟨g, 3, none⟩ (.slice B3 n3 d3)).setCell ⟨g, 4, none⟩ (.int .i64 L)).setCell ⟨g, 5, none⟩ (.int .i64 K)).setCell ⟨g, 6, none⟩ (.int .i64 T)).setCell ⟨g, 7, none⟩ (.int .i64 E)).cell? ⟨g, 3, none⟩ = some (.slice B3 n3 d3) := box_cell HD.out.2.2.2.1 3
        have c_o_4 : ((((((((w4.setCell ⟨g, 0, none⟩ (.int .i64 M')).setCell ⟨g, 1, none⟩ (.slice D1 j1 x1)).setCell ⟨g, 2, none⟩ (.int .i64 S)).setCell ⟨g, 3, none⟩ (.slice B3 n3 d3)).setCell ⟨g, 4, none⟩ (.int .i64 L)).setCell ⟨g, 5, none⟩ (.int .i64 K)).setCell ⟨g, 6, none⟩ (.int .i64 T)).setCell ⟨g, 7, none⟩ (.int .i64 E)).cell? ⟨g, 4, none⟩ = some (.int .i64 L) := box_cell HD.out.2.2.2.1 4
        have c_o_5 : ((((((((w4.setCell ⟨g, 0, none⟩ (.int .i64 M')).setCell ⟨g, 1, none⟩ (.slice D1 j1 x1)).setCell ⟨g, 2, none⟩ (.int .i64 S)).setCell ⟨g, 3, none⟩ (.slice B3 n3 d3)).setCell ⟨g, 4, none⟩ (.int .i64 L)).setCell ⟨g, 5, none⟩ (.int .i64 K)).setCell ⟨g, 6, none⟩ (.int .i64 T)).setCell ⟨g, 7, none⟩ (.int .i64 E)).cell? ⟨g, 5, none⟩ = some (.int .i64 K) := box_cell HD.out.2.2.2.1 5
        have c_o_6 : ((((((((w4.setCell ⟨g, 0, none⟩ (.int .i64 M')).setCell ⟨g, 1, none⟩ (.slice D1 j1 x1)).setCell ⟨g, 2, none⟩ (.int .i64 S)).setCell ⟨g, 3, none⟩ (.slice B3 n3 d3)).setCell ⟨g, 4, none⟩ (.int .i64 L)).setCell ⟨g, 5, none⟩ (.int .i64 K)).setCell ⟨g, 6, none⟩ (.int .i64 T)).setCell ⟨g, 7, none⟩ (.int .i64 E)).cell? ⟨g, 6, none⟩ = some (.int .i64 T) := box_cell HD.out.2.2.2.1 6
        have c_o_7 : ((((((((w4.setCell ⟨g, 0, none⟩ (.int .i64 M')).setCell ⟨g, 1, none⟩ (.slice D1 j1 x1)).setCell ⟨g, 2, none⟩ (.int .i64 S)).setCell ⟨g, 3, none⟩ (.slice B3 n3 d3)).setCell ⟨g, 4, none⟩ (.int .i64 L)).setCell ⟨g, 5, none⟩ (.int .i64 K)).setCell ⟨g, 6, none⟩ (.int .i64 T)).setCell ⟨g, 7, none⟩ (.int .i64 E)).cell? ⟨g, 7, none⟩ = some (.int .i64 E) := box_cell HD.out.2.2.2.1 7
        have hq1 : G'.length = j1 := by have hq := (HD.out.2.2.2.2.1.out).1; rwa [ints_length] at hq
        have hq3 : Q.length = n3 := by have hq := (HD.out.2.2.2.2.2.1.out).1; rwa [ints_length] at hq
        have ra1 := HD.out.2.2.2.2.1.out.rd; have ra3 := HD.out.2.2.2.2.2.1.out.rd
        go_wp2_with fail
        refine (specPV (M') D1 j1 x1 G' (S) B3 n3 d3 Q (L) (K) (T) (E) _ hq1 (by omega) ra1 hq3 (by omega) ra3).mono ?_
        rintro e w5 ⟨rfl, hbn⟩
        replace HD := Lib.hid (HD.out.below hbn)
        clear hbn ra1 ra3 c_o_0 c_o_1 c_o_2 c_o_3 c_o_4 c_o_5 c_o_6 c_o_7
        cases hv2 : pollB (M') (S) (L) (K) (T) (E) G' Q with
        | true =>
          obtain ⟨hl5, hl6⟩ := pollB_len hv2
          clear hv2
          have HR : Hid (w5.heap[(w.heap.size + 1 + 1)]? = some (.cells #[.int .i64 0, .slice none 0 0, .int .i64 0, .slice none 0 0, .int .i64 0, .int .i64 0, .int .i64 0, .int .i64 0] 25 (0, 0))) := HD.out.2.2.1
          have c_o_0 : w5.cell? ⟨g, 0, none⟩ = some (.int .i64 M') := box_cell HD.out.2.2.2.1 0
          have c_o_1 : w5.cell? ⟨g, 1, none⟩ = some (.slice D1 j1 x1) := box_cell HD.out.2.2.2.1 1
          have c_o_2 : w5.cell? ⟨g, 2, none⟩ = some (.int .i64 S) := box_cell HD.out.2.2.2.1 2
          have c_o_3 : w5.cell? ⟨g, 3, none⟩ = some (.slice B3 n3 d3) := box_cell HD.out.2.2.2.1 3
          have c_o_4 : w5.cell? ⟨g, 4, none⟩ = some (.int .i64 L) := box_cell HD.out.2.2.2.1 4
          have c_o_5 : w5.cell? ⟨g, 5, none⟩ = some (.int .i64 K) := box_cell HD.out.2.2.2.1 5
          have c_o_6 : w5.cell? ⟨g, 6, none⟩ = some (.int .i64 T) := box_cell HD.out.2.2.2.1 6
          have c_o_7 : w5.cell? ⟨g, 7, none⟩ = some (.int .i64 E) := box_cell HD.out.2.2.2.1 7
          have k0 : w5.cell? ⟨(w.heap.size + 1 + 1), 0, none⟩ = some (.int .i64 0) := box_cell HR 0; have y0 : w5.frozen? ⟨(w.heap.size + 1 + 1), 0, none⟩ = false := box_free HR 0
          have k1 : w5.cell? ⟨(w.heap.size + 1 + 1), 1, none⟩ = some (.slice none 0 0) := box_cell HR 1; have y1 : w5.frozen? ⟨(w.heap.size + 1 + 1), 1, none⟩ = false := box_free HR 1
          have k2 : w5.cell? ⟨(w.heap.size + 1 + 1), 2, none⟩ = some (.int .i64 0) := box_cell HR 2; have y2 : w5.frozen? ⟨(w.heap.size + 1 + 1), 2, none⟩ = false := box_free HR 2
          have k3 : w5.cell? ⟨(w.heap.size + 1 + 1), 3, none⟩ = some (.slice none 0 0) := box_cell HR 3; have y3 : w5.frozen? ⟨(w.heap.size + 1 + 1), 3, none⟩ = false := box_free HR 3
          have k4 : w5.cell? ⟨(w.heap.size + 1 + 1), 4, none⟩ = some (.int .i64 0) := box_cell HR 4; have y4 : w5.frozen? ⟨(w.heap.size + 1 + 1), 4, none⟩ = false := box_free HR 4
          have k5 : w5.cell? ⟨(w.heap.size + 1 + 1), 5, none⟩ = some (.int .i64 0) := box_cell HR 5; have y5 : w5.frozen? ⟨(w.heap.size + 1 + 1), 5, none⟩ = false := box_free HR 5
          have k6 : w5.cell? ⟨(w.heap.size + 1 + 1), 6, none⟩ = some (.int .i64 0) := box_cell HR 6; have y6 : w5.frozen? ⟨(w.heap.size + 1 + 1), 6, none⟩ = false := box_free HR 6
          have k7 : w5.cell? ⟨(w.heap.size + 1 + 1), 7, none⟩ = some (.int .i64 0) := box_cell HR 7; have y7 : w5.frozen? ⟨(w.heap.size + 1 + 1), 7, none⟩ = false := box_free HR 7
          have HZ := set8_cells HR (.int .i64 M') (.slice D1 j1 x1) (.int .i64 S) (.slice B3 n3 d3) (.int .i64 L) (.int .i64 K) (.int .i64 T) (.int .i64 E)
          have z0 := box_cell HZ 0; simp at z0
          have z1 := box_cell HZ 1; simp at z1
          have z2 := box_cell HZ 2; simp at z2
          have z3 := box_cell HZ 3; simp at z3
          have z4 := box_cell HZ 4; simp at z4
          have z5 := box_cell HZ 5; simp at z5
          have z6 := box_cell HZ 6; simp at z6
          have z7 := box_cell HZ 7; simp at z7
          go_wp2_with fail
          exact bodyPost_ret (v := .tuple #[.agg #[.int .i64 M', .slice D1 j1 x1, .int .i64 S, .slice B3 n3 d3, .int .i64 L, .int .i64 K, .int .i64 T, .int .i64 E], .bool true]) (by simp [results, Tryd.results37, go_sem, z0, z1, z2, z3, z4, z5, z6, z7]) rfl (retSome (HD.out.2.2.2.2.1.out) (HD.out.2.2.2.2.2.1.out) HD.out.2.2.2.2.2.2.1.out (Nat.le_refl _) HD.out.2.2.2.2.2.2.2.2.2.out (by omega) (by omega) true)
        | false =>
          clear hv2
          have hg5 := blk_lt HD.out.2.2.2.1.out
          have c_p_0 : w5.cell? ⟨w.heap.size, 0, none⟩ = some (.int .i64 M) := box_cell HD.out.2.1 0
          have c_p_1 : w5.cell? ⟨w.heap.size, 1, none⟩ = some (.slice A1 n1 c1) := box_cell HD.out.2.1 1
          have c_p_2 : w5.cell? ⟨w.heap.size, 2, none⟩ = some (.int .i64 S) := box_cell HD.out.2.1 2
          have c_p_3 : w5.cell? ⟨w.heap.size, 3, none⟩ = some (.slice A3 n3 c3) := box_cell HD.out.2.1 3
          have c_p_4 : w5.cell? ⟨w.heap.size, 4, none⟩ = some (.int .i64 L) := box_cell HD.out.2.1 4
          have c_p_5 : w5.cell? ⟨w.heap.size, 5, none⟩ = some (.int .i64 K) := box_cell HD.out.2.1 5
          have c_p_6 : w5.cell? ⟨w.heap.size, 6, none⟩ = some (.int .i64 T) := box_cell HD.out.2.1 6
          have c_p_7 : w5.cell? ⟨w.heap.size, 7, none⟩ = some (.int .i64 E) := box_cell HD.out.2.1 7
          have ha1 := HA1.out.below HD.out.2.2.2.2.2.2.2.2.2.out; have ha3 := HA3.out.below HD.out.2.2.2.2.2.2.2.2.2.out
          go_wp2_with fail
          refine (copyC M A1 n1 c1 G S A3 n3 c3 Q L K T E _ HN1.out hm1 ha1 HN3.out hm3 ha3 HZ1.out HZ3.out).mono ?_
          rintro e w6 ⟨C1, e1, C3, e3, rfl, hr1, hr3, hap, hbn⟩
          replace HD := Lib.hid (HD.out.below hbn)
          have HR1 := Lib.hid hr1; have HR3 := Lib.hid hr3; have HAP := Lib.hid hap
          clear hr1 hr3 hap hbn ha1 ha3 c_p_0 c_p_1 c_p_2 c_p_3 c_p_4 c_p_5 c_p_6 c_p_7
          have HR : Hid (w6.heap[(w.heap.size + 1 + 1)]? = some (.cells #[.int .i64 0, .slice none 0 0, .int .i64 0, .slice none 0 0, .int .i64 0, .int .i64 0, .int .i64 0, .int .i64 0] 25 (0, 0))) := HD.out.2.2.1
          have k0 : w6.cell? ⟨(w.heap.size + 1 + 1), 0, none⟩ = some (.int .i64 0) := box_cell HR 0; have y0 : w6.frozen? ⟨(w.heap.size + 1 + 1), 0, none⟩ = false := box_free HR 0
          have k1 : w6.cell? ⟨(w.heap.size + 1 + 1), 1, none⟩ = some (.slice none 0 0) := box_cell HR 1; have y1 : w6.frozen? ⟨(w.heap.size + 1 + 1), 1, none⟩ = false := box_free HR 1
          have k2 : w6.cell? ⟨(w.heap.size + 1 + 1), 2, none⟩ = some (.int .i64 0) := box_cell HR 2; have y2 : w6.frozen? ⟨(w.heap.size + 1 + 1), 2, none⟩ = false := box_free HR 2
          have k3 : w6.cell? ⟨(w.heap.size + 1 + 1), 3, none⟩ = some (.slice none 0 0) := box_cell HR 3; have y3 : w6.frozen? ⟨(w.heap.size + 1 + 1), 3, none⟩ = false := box_free HR 3
          have k4 : w6.cell? ⟨(w.heap.size + 1 + 1), 4, none⟩ = some (.int .i64 0) := box_cell HR 4; have y4 : w6.frozen? ⟨(w.heap.size + 1 + 1), 4, none⟩ = false := box_free HR 4
          have k5 : w6.cell? ⟨(w.heap.size + 1 + 1), 5, none⟩ = some (.int .i64 0) := box_cell HR 5; have y5 : w6.frozen? ⟨(w.heap.size + 1 + 1), 5, none⟩ = false := box_free HR 5
          have k6 : w6.cell? ⟨(w.heap.size + 1 + 1), 6, none⟩ = some (.int .i64 0) := box_cell HR 6; have y6 : w6.frozen? ⟨(w.heap.size + 1 + 1), 6, none⟩ = false := box_free HR 6
          have k7 : w6.cell? ⟨(w.heap.size + 1 + 1), 7, none⟩ = some (.int .i64 0) := box_cell HR 7; have y7 : w6.frozen? ⟨(w.heap.size + 1 + 1), 7, none⟩ = false := box_free HR 7
          have HZ := set8_cells HR (.int .i64 M) (.slice C1 n1 e1) (.int .i64 S) (.slice C3 n3 e3) (.int .i64 L) (.int .i64 K) (.int .i64 T) (.int .i64 E)
          have z0 := box_cell HZ 0; simp at z0
          have z1 := box_cell HZ 1; simp at z1
          have z2 := box_cell HZ 2; simp at z2
          have z3 := box_cell HZ 3; simp at z3
          have z4 := box_cell HZ 4; simp at z4
          have z5 := box_cell HZ 5; simp at z5
          have z6 := box_cell HZ 6; simp at z6
          have z7 := box_cell HZ 7; simp at z7
          go_wp2_with fail
          exact bodyPost_ret (v := .tuple #[.agg #[.int .i64 M, .slice C1 n1 e1, .int .i64 S, .slice C3 n3 e3, .int .i64 L, .int .i64 K, .int .i64 T, .int .i64 E], .bool false]) (by simp [results, Tryd.results37, go_sem, z0, z1, z2, z3, z4, z5, z6, z7]) rfl (retSome (off_row HR1.out) (off_row HR3.out) HAP.out (show w.heap.size + 3 ≤ w5.heap.size by omega) HD.out.2.2.2.2.2.2.2.2.2.out (by omega) (by omega) false)
    by_cases hk0 : kind = 0
    · subst hk0
      have c_d_0 : W2.cell? ⟨(w.heap.size + 1), 0, none⟩ = some (.int .i64 0) := box_cell B_d 0
      have c_d_1 : W2.cell? ⟨(w.heap.size + 1), 1, none⟩ = some (.int .i64 val) := box_cell B_d 1
      have c_o_3 : W2.cell? ⟨g, 3, none⟩ = some (.slice B3 n3 d3) := box_cell HD.out.2.2.2.1 3
      have HDL := Lib.hid (HD.out.alloc (.cells #[.int .i64 val] 3))
      have hbz : w.heap.size + 3 ≤ (W2.alloc (.cells #[.int .i64 val] 3)).heap.size := by have := blk_lt HDL.out.2.2.2.1.out; omega
      have hlit : (W2.alloc (.cells #[.int .i64 val] 3)).cell? ⟨W2.heap.size, 0, none⟩ = some (.int .i64 val) := box_cell (new_box W2 (.cells #[.int .i64 val] 3)) 0
      have HOL := Lib.hid HDL.out.2.2.2.2.2.1.out
      go_upto_region 18 with (at_builtin; refine wpList_appOff _ rfl _ _ _ rfl i0 (.int .i64 0) Tryd.underlying23 HI.out rfl (w.heap.size + 3) B3 n3 d3 (ints Q) rfl HOL.out W2.heap.size (.int .i64 val) rfl hlit rfl (by omega) hbz ?_; intro A' c' wa hoff hg3 hap; have HDq := Lib.hid (DoS.q (Q2 := Q ++ [val]) HDL.out hg3 (by rw [ints_snoc]; exact hoff) hap); have K_o := box_own HDL.out.2.2.2.1 hg3 HDL.out.neg3; have q0 := box_cell K_o 3; have q1 := box_free K_o 3; simp at q0; clear hoff hg3 hap HOL K_o)
      clear HD HDL hlit hbz q0 q1 c_d_1 c_o_3 c_d_0
      have HD := HDq
      clear HDq
      replace HD : Hid (DoS w g M A1 n1 c1 S A3 n3 c3 L K T E (M) B1 n1 d1 G (S) A' (n3 + 1) c' (Q ++ [val]) (L) (K) (T) (E) (wa.setCell ⟨g, 3, none⟩ (.slice A' (n3 + 1) c'))) := Lib.hid (HD.out)
      have c_o_0 : (wa.setCell ⟨g, 3, none⟩ (.slice A' (n3 + 1) c')).cell? ⟨g, 0, none⟩ = some (.int .i64 M) := box_cell HD.out.2.2.2.1 0
      have c_o_1 : (wa.setCell ⟨g, 3, none⟩ (.slice A' (n3 + 1) c')).cell? ⟨g, 1, none⟩ = some (.slice B1 n1 d1) := box_cell HD.out.2.2.2.1 1
      have c_o_2 : (wa.setCell ⟨g, 3, none⟩ (.slice A' (n3 + 1) c')).cell? ⟨g, 2, none⟩ = some (.int .i64 S) := box_cell HD.out.2.2.2.1 2
      have c_o_3 : (wa.setCell ⟨g, 3, none⟩ (.slice A' (n3 + 1) c')).cell? ⟨g, 3, none⟩ = some (.slice A' (n3 + 1) c') := box_cell HD.out.2.2.2.1 3
      have c_o_4 : (wa.setCell ⟨g, 3, none⟩ (.slice A' (n3 + 1) c')).cell? ⟨g, 4, none⟩ = some (.int .i64 L) := box_cell HD.out.2.2.2.1 4
      have c_o_5 : (wa.setCell ⟨g, 3, none⟩ (.slice A' (n3 + 1) c')).cell? ⟨g, 5, none⟩ = some (.int .i64 K) := box_cell HD.out.2.2.2.1 5
      have c_o_6 : (wa.setCell ⟨g, 3, none⟩ (.slice A' (n3 + 1) c')).cell? ⟨g, 6, none⟩ = some (.int .i64 T) := box_cell HD.out.2.2.2.1 6
      have c_o_7 : (wa.setCell ⟨g, 3, none⟩ (.slice A' (n3 + 1) c')).cell? ⟨g, 7, none⟩ = some (.int .i64 E) := box_cell HD.out.2.2.2.1 7
      have hq1 : G.length = n1 := by have hq := (HD.out.2.2.2.2.1.out).1; rwa [ints_length] at hq
      have hq3 : (Q ++ [val]).length = (n3 + 1) := by have hq := (HD.out.2.2.2.2.2.1.out).1; rwa [ints_length] at hq
      have ra1 := HD.out.2.2.2.2.1.out.rd; have ra3 := HD.out.2.2.2.2.2.1.out.rd
      go_wp2_with fail
      refine (specPV (M) B1 n1 d1 G (S) A' (n3 + 1) c' (Q ++ [val]) (L) (K) (T) (E) _ hq1 (by omega) ra1 hq3 (by omega) ra3).mono ?_
      rintro e w5 ⟨rfl, hbn⟩
      replace HD := Lib.hid (HD.out.below hbn)
      clear hbn ra1 ra3 c_o_0 c_o_1 c_o_2 c_o_3 c_o_4 c_o_5 c_o_6 c_o_7
      cases hv2 : pollB (M) (S) (L) (K) (T) (E) G (Q ++ [val]) with
      | true =>
        obtain ⟨hl5, hl6⟩ := pollB_len hv2
        clear hv2
        have HR : Hid (w5.heap[(w.heap.size + 1 + 1)]? = some (.cells #[.int .i64 0, .slice none 0 0, .int .i64 0, .slice none 0 0, .int .i64 0, .int .i64 0, .int .i64 0, .int .i64 0] 25 (0, 0))) := HD.out.2.2.1
        have c_o_0 : w5.cell? ⟨g, 0, none⟩ = some (.int .i64 M) := box_cell HD.out.2.2.2.1 0
        have c_o_1 : w5.cell? ⟨g, 1, none⟩ = some (.slice B1 n1 d1) := box_cell HD.out.2.2.2.1 1
        have c_o_2 : w5.cell? ⟨g, 2, none⟩ = some (.int .i64 S) := box_cell HD.out.2.2.2.1 2
        have c_o_3 : w5.cell? ⟨g, 3, none⟩ = some (.slice A' (n3 + 1) c') := box_cell HD.out.2.2.2.1 3
        have c_o_4 : w5.cell? ⟨g, 4, none⟩ = some (.int .i64 L) := box_cell HD.out.2.2.2.1 4
        have c_o_5 : w5.cell? ⟨g, 5, none⟩ = some (.int .i64 K) := box_cell HD.out.2.2.2.1 5
        have c_o_6 : w5.cell? ⟨g, 6, none⟩ = some (.int .i64 T) := box_cell HD.out.2.2.2.1 6
        have c_o_7 : w5.cell? ⟨g, 7, none⟩ = some (.int .i64 E) := box_cell HD.out.2.2.2.1 7
        have k0 : w5.cell? ⟨(w.heap.size + 1 + 1), 0, none⟩ = some (.int .i64 0) := box_cell HR 0; have y0 : w5.frozen? ⟨(w.heap.size + 1 + 1), 0, none⟩ = false := box_free HR 0
        have k1 : w5.cell? ⟨(w.heap.size + 1 + 1), 1, none⟩ = some (.slice none 0 0) := box_cell HR 1; have y1 : w5.frozen? ⟨(w.heap.size + 1 + 1), 1, none⟩ = false := box_free HR 1
        have k2 : w5.cell? ⟨(w.heap.size + 1 + 1), 2, none⟩ = some (.int .i64 0) := box_cell HR 2; have y2 : w5.frozen? ⟨(w.heap.size + 1 + 1), 2, none⟩ = false := box_free HR 2
        have k3 : w5.cell? ⟨(w.heap.size + 1 + 1), 3, none⟩ = some (.slice none 0 0) := box_cell HR 3; have y3 : w5.frozen? ⟨(w.heap.size + 1 + 1), 3, none⟩ = false := box_free HR 3
        have k4 : w5.cell? ⟨(w.heap.size + 1 + 1), 4, none⟩ = some (.int .i64 0) := box_cell HR 4; have y4 : w5.frozen? ⟨(w.heap.size + 1 + 1), 4, none⟩ = false := box_free HR 4
        have k5 : w5.cell? ⟨(w.heap.size + 1 + 1), 5, none⟩ = some (.int .i64 0) := box_cell HR 5; have y5 : w5.frozen? ⟨(w.heap.size + 1 + 1), 5, none⟩ = false := box_free HR 5
        have k6 : w5.cell? ⟨(w.heap.size + 1 + 1), 6, none⟩ = some (.int .i64 0) := box_cell HR 6; have y6 : w5.frozen? ⟨(w.heap.size + 1 + 1), 6, none⟩ = false := box_free HR 6
        have k7 : w5.cell? ⟨(w.heap.size + 1 + 1), 7, none⟩ = some (.int .i64 0) := box_cell HR 7; have y7 : w5.frozen? ⟨(w.heap.size + 1 + 1), 7, none⟩ = false := box_free HR 7
        have HZ := set8_cells HR (.int .i64 M) (.slice B1 n1 d1) (.int .i64 S) (.slice A' (n3 + 1) c') (.int .i64 L) (.int .i64 K) (.int .i64 T) (.int .i64 E)
        have z0 := box_cell HZ 0; simp at z0
        have z1 := box_cell HZ 1; simp at z1
        have z2 := box_cell HZ 2; simp at z2
        have z3 := box_cell HZ 3; simp at z3
        have z4 := box_cell HZ 4; simp at z4
        have z5 := box_cell HZ 5; simp at z5
        have z6 := box_cell HZ 6; simp at z6
        have z7 := box_cell HZ 7; simp at z7
        go_wp2_with fail
        exact bodyPost_ret (v := .tuple #[.agg #[.int .i64 M, .slice B1 n1 d1, .int .i64 S, .slice A' (n3 + 1) c', .int .i64 L, .int .i64 K, .int .i64 T, .int .i64 E], .bool true]) (by simp [results, Tryd.results37, go_sem, z0, z1, z2, z3, z4, z5, z6, z7]) rfl (retSome (HD.out.2.2.2.2.1.out) (HD.out.2.2.2.2.2.1.out) HD.out.2.2.2.2.2.2.1.out (Nat.le_refl _) HD.out.2.2.2.2.2.2.2.2.2.out (by omega) (by omega) true)
      | false =>
        clear hv2
        have hg5 := blk_lt HD.out.2.2.2.1.out
        have c_p_0 : w5.cell? ⟨w.heap.size, 0, none⟩ = some (.int .i64 M) := box_cell HD.out.2.1 0
        have c_p_1 : w5.cell? ⟨w.heap.size, 1, none⟩ = some (.slice A1 n1 c1) := box_cell HD.out.2.1 1
        have c_p_2 : w5.cell? ⟨w.heap.size, 2, none⟩ = some (.int .i64 S) := box_cell HD.out.2.1 2
        have c_p_3 : w5.cell? ⟨w.heap.size, 3, none⟩ = some (.slice A3 n3 c3) := box_cell HD.out.2.1 3
        have c_p_4 : w5.cell? ⟨w.heap.size, 4, none⟩ = some (.int .i64 L) := box_cell HD.out.2.1 4
        have c_p_5 : w5.cell? ⟨w.heap.size, 5, none⟩ = some (.int .i64 K) := box_cell HD.out.2.1 5
        have c_p_6 : w5.cell? ⟨w.heap.size, 6, none⟩ = some (.int .i64 T) := box_cell HD.out.2.1 6
        have c_p_7 : w5.cell? ⟨w.heap.size, 7, none⟩ = some (.int .i64 E) := box_cell HD.out.2.1 7
        have ha1 := HA1.out.below HD.out.2.2.2.2.2.2.2.2.2.out; have ha3 := HA3.out.below HD.out.2.2.2.2.2.2.2.2.2.out
        go_wp2_with fail
        refine (copyC M A1 n1 c1 G S A3 n3 c3 Q L K T E _ HN1.out hm1 ha1 HN3.out hm3 ha3 HZ1.out HZ3.out).mono ?_
        rintro e w6 ⟨C1, e1, C3, e3, rfl, hr1, hr3, hap, hbn⟩
        replace HD := Lib.hid (HD.out.below hbn)
        have HR1 := Lib.hid hr1; have HR3 := Lib.hid hr3; have HAP := Lib.hid hap
        clear hr1 hr3 hap hbn ha1 ha3 c_p_0 c_p_1 c_p_2 c_p_3 c_p_4 c_p_5 c_p_6 c_p_7
        have HR : Hid (w6.heap[(w.heap.size + 1 + 1)]? = some (.cells #[.int .i64 0, .slice none 0 0, .int .i64 0, .slice none 0 0, .int .i64 0, .int .i64 0, .int .i64 0, .int .i64 0] 25 (0, 0))) := HD.out.2.2.1
        have k0 : w6.cell? ⟨(w.heap.size + 1 + 1), 0, none⟩ = some (.int .i64 0) := box_cell HR 0; have y0 : w6.frozen? ⟨(w.heap.size + 1 + 1), 0, none⟩ = false := box_free HR 0
        have k1 : w6.cell? ⟨(w.heap.size + 1 + 1), 1, none⟩ = some (.slice none 0 0) := box_cell HR 1; have y1 : w6.frozen? ⟨(w.heap.size + 1 + 1), 1, none⟩ = false := box_free HR 1
        have k2 : w6.cell? ⟨(w.heap.size + 1 + 1), 2, none⟩ = some (.int .i64 0) := box_cell HR 2; have y2 : w6.frozen? ⟨(w.heap.size + 1 + 1), 2, none⟩ = false := box_free HR 2
        have k3 : w6.cell? ⟨(w.heap.size + 1 + 1), 3, none⟩ = some (.slice none 0 0) := box_cell HR 3; have y3 : w6.frozen? ⟨(w.heap.size + 1 + 1), 3, none⟩ = false := box_free HR 3
        have k4 : w6.cell? ⟨(w.heap.size + 1 + 1), 4, none⟩ = some (.int .i64 0) := box_cell HR 4; have y4 : w6.frozen? ⟨(w.heap.size + 1 + 1), 4, none⟩ = false := box_free HR 4
        have k5 : w6.cell? ⟨(w.heap.size + 1 + 1), 5, none⟩ = some (.int .i64 0) := box_cell HR 5; have y5 : w6.frozen? ⟨(w.heap.size + 1 + 1), 5, none⟩ = false := box_free HR 5
        have k6 : w6.cell? ⟨(w.heap.size + 1 + 1), 6, none⟩ = some (.int .i64 0) := box_cell HR 6; have y6 : w6.frozen? ⟨(w.heap.size + 1 + 1), 6, none⟩ = false := box_free HR 6
        have k7 : w6.cell? ⟨(w.heap.size + 1 + 1), 7, none⟩ = some (.int .i64 0) := box_cell HR 7; have y7 : w6.frozen? ⟨(w.heap.size + 1 + 1), 7, none⟩ = false := box_free HR 7
        have HZ := set8_cells HR (.int .i64 M) (.slice C1 n1 e1) (.int .i64 S) (.slice C3 n3 e3) (.int .i64 L) (.int .i64 K) (.int .i64 T) (.int .i64 E)
        have z0 := box_cell HZ 0; simp at z0
        have z1 := box_cell HZ 1; simp at z1
        have z2 := box_cell HZ 2; simp at z2
        have z3 := box_cell HZ 3; simp at z3
        have z4 := box_cell HZ 4; simp at z4
        have z5 := box_cell HZ 5; simp at z5
        have z6 := box_cell HZ 6; simp at z6
        have z7 := box_cell HZ 7; simp at z7
        go_wp2_with fail
        exact bodyPost_ret (v := .tuple #[.agg #[.int .i64 M, .slice C1 n1 e1, .int .i64 S, .slice C3 n3 e3, .int .i64 L, .int .i64 K, .int .i64 T, .int .i64 E], .bool false]) (by simp [results, Tryd.results37, go_sem, z0, z1, z2, z3, z4, z5, z6, z7]) rfl (retSome (off_row HR1.out) (off_row HR3.out) HAP.out (show w.heap.size + 3 ≤ w5.heap.size by omega) HD.out.2.2.2.2.2.2.2.2.2.out (by omega) (by omega) false)
    · skip
      have c_d_0 : W2.cell? ⟨(w.heap.size + 1), 0, none⟩ = some (.int .i64 kind) := box_cell B_d 0
      have hb0 : (kind == 0) = false := by simpa using hk0
      have hb1 : (kind == 1) = false := by simpa using hk1
      have hb2 : (kind == 2) = false := by simpa using hk2
      have hb3 : (kind == 3) = false := by simpa using hk3
      have hb4 : (kind == 4) = false := by simpa using hk4
      have hb5 : (kind == 5) = false := by simpa using hk5
      have HR : Hid (W2.heap[(w.heap.size + 1 + 1)]? = some (.cells #[.int .i64 0, .slice none 0 0, .int .i64 0, .slice none 0 0, .int .i64 0, .int .i64 0, .int .i64 0, .int .i64 0] 25 (0, 0))) := HD.out.2.2.1
      have c_o_0 : W2.cell? ⟨g, 0, none⟩ = some (.int .i64 M) := box_cell HD.out.2.2.2.1 0
      have c_o_1 : W2.cell? ⟨g, 1, none⟩ = some (.slice B1 n1 d1) := box_cell HD.out.2.2.2.1 1
      have c_o_2 : W2.cell? ⟨g, 2, none⟩ = some (.int .i64 S) := box_cell HD.out.2.2.2.1 2
      have c_o_3 : W2.cell? ⟨g, 3, none⟩ = some (.slice B3 n3 d3) := box_cell HD.out.2.2.2.1 3
      have c_o_4 : W2.cell? ⟨g, 4, none⟩ = some (.int .i64 L) := box_cell HD.out.2.2.2.1 4
      have c_o_5 : W2.cell? ⟨g, 5, none⟩ = some (.int .i64 K) := box_cell HD.out.2.2.2.1 5
      have c_o_6 : W2.cell? ⟨g, 6, none⟩ = some (.int .i64 T) := box_cell HD.out.2.2.2.1 6
      have c_o_7 : W2.cell? ⟨g, 7, none⟩ = some (.int .i64 E) := box_cell HD.out.2.2.2.1 7
      have k0 : W2.cell? ⟨(w.heap.size + 1 + 1), 0, none⟩ = some (.int .i64 0) := box_cell HR 0; have y0 : W2.frozen? ⟨(w.heap.size + 1 + 1), 0, none⟩ = false := box_free HR 0
      have k1 : W2.cell? ⟨(w.heap.size + 1 + 1), 1, none⟩ = some (.slice none 0 0) := box_cell HR 1; have y1 : W2.frozen? ⟨(w.heap.size + 1 + 1), 1, none⟩ = false := box_free HR 1
      have k2 : W2.cell? ⟨(w.heap.size + 1 + 1), 2, none⟩ = some (.int .i64 0) := box_cell HR 2; have y2 : W2.frozen? ⟨(w.heap.size + 1 + 1), 2, none⟩ = false := box_free HR 2
      have k3 : W2.cell? ⟨(w.heap.size + 1 + 1), 3, none⟩ = some (.slice none 0 0) := box_cell HR 3; have y3 : W2.frozen? ⟨(w.heap.size + 1 + 1), 3, none⟩ = false := box_free HR 3
      have k4 : W2.cell? ⟨(w.heap.size + 1 + 1), 4, none⟩ = some (.int .i64 0) := box_cell HR 4; have y4 : W2.frozen? ⟨(w.heap.size + 1 + 1), 4, none⟩ = false := box_free HR 4
      have k5 : W2.cell? ⟨(w.heap.size + 1 + 1), 5, none⟩ = some (.int .i64 0) := box_cell HR 5; have y5 : W2.frozen? ⟨(w.heap.size + 1 + 1), 5, none⟩ = false := box_free HR 5
      have k6 : W2.cell? ⟨(w.heap.size + 1 + 1), 6, none⟩ = some (.int .i64 0) := box_cell HR 6; have y6 : W2.frozen? ⟨(w.heap.size + 1 + 1), 6, none⟩ = false := box_free HR 6
      have k7 : W2.cell? ⟨(w.heap.size + 1 + 1), 7, none⟩ = some (.int .i64 0) := box_cell HR 7; have y7 : W2.frozen? ⟨(w.heap.size + 1 + 1), 7, none⟩ = false := box_free HR 7
      have HZ := set8_cells HR (.int .i64 M) (.slice B1 n1 d1) (.int .i64 S) (.slice B3 n3 d3) (.int .i64 L) (.int .i64 K) (.int .i64 T) (.int .i64 E)
      have z0 := box_cell HZ 0; simp at z0
      have z1 := box_cell HZ 1; simp at z1
      have z2 := box_cell HZ 2; simp at z2
      have z3 := box_cell HZ 3; simp at z3
      have z4 := box_cell HZ 4; simp at z4
      have z5 := box_cell HZ 5; simp at z5
      have z6 := box_cell HZ 6; simp at z6
      have z7 := box_cell HZ 7; simp at z7
      go_wp2_with fail
      exact bodyPost_ret (v := .tuple #[.agg #[.int .i64 M, .slice B1 n1 d1, .int .i64 S, .slice B3 n3 d3, .int .i64 L, .int .i64 K, .int .i64 T, .int .i64 E], .bool false]) (by simp [results, Tryd.results37, go_sem, z0, z1, z2, z3, z4, z5, z6, z7]) rfl (retSome (HD.out.2.2.2.2.1.out) (HD.out.2.2.2.2.2.1.out) HD.out.2.2.2.2.2.2.1.out (Nat.le_refl _) HD.out.2.2.2.2.2.2.2.2.2.out (by omega) (by omega) false)
end Go.Proofs.YthekihggedgofaaDoor
