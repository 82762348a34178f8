/- The contract of PollRun. No statement is proved here. -/
import Derived.Test.YthekihggedgofaaDoorPolZ
import Derived.Deep.RegionHeld3
namespace Go.Proofs.YthekihggedgofaaDoor
open Go.RowKit
def flatD (l : List (Int × Int)) : List Value := l.flatMap fun x => [.int .i64 x.1, .int .i64 x.2]
theorem flatD_len (l : List (Int × Int)) : (flatD l).length = l.length * 2 := flat_length (fun x : Int × Int => [.int .i64 x.1, .int .i64 x.2]) 2 (fun _ => rfl) l
theorem Rd.deed {w : World} {A : Option Addr} {l : List (Int × Int)} (h : Rd w A (flatD l)) {k : Nat} (hk : k < l.length) :
    ∃ (b o : Nat) (x y : Int), A = some ⟨b, o, none⟩ ∧ b < w.heap.size ∧ w.cell? ⟨b, o + k * 2, none⟩ = some (.int .i64 x) ∧ w.cell? ⟨b, o + k * 2 + 1, none⟩ = some (.int .i64 y) := by
  obtain ⟨b, o, e, hlt, hc⟩ := h (by rw [flatD_len]; omega)
  refine ⟨b, o, (l.getD k (0, 0)).1, (l.getD k (0, 0)).2, e, hlt, hc (k * 2) _ ?_, ?_⟩
  · exact flat_get (fun x : Int × Int => [.int .i64 x.1, .int .i64 x.2]) 2 (fun _ => rfl) (0, 0) l k 0 hk (by omega)
  · have := hc (k * 2 + 1) _ (flat_get (fun x : Int × Int => [.int .i64 x.1, .int .i64 x.2]) 2 (fun _ => rfl) (0, 0) l k 1 hk (by omega))
    rwa [← Nat.add_assoc] at this
def RetPR (w : World) (e : Ending) (w' : World) : Prop := ∃ (v : Value) (n : Int), e = .returned (.tuple #[v, .int .i64 n]) ∧ SomeP w.heap.size w' v ∧ Below w.heap.size w w'
/-- within PollRun: the result's box, the box of the poll under way (block g) -/
def RunS (w : World) (g : Nat) (M' : Int) (B1 : Option Addr) (m1 d1 : Nat) (G' : List Int) (S' : Int) (B3 : Option Addr) (m3 d3 : Nat) (Q' : List Int) (L' K' T' E' : Int) (W : World) : Prop :=
  w.heap.size + 1 < g ∧ Hid (W.heap[w.heap.size + 1]? = some (.cells #[.int .i64 0, .slice none 0 0, .int .i64 0, .slice none 0 0, .int .i64 0, .int .i64 0, .int .i64 0, .int .i64 0] 25 (0, 0))) ∧ Hid (W.heap[g]? = some (.cells #[.int .i64 M', .slice B1 m1 d1, .int .i64 S', .slice B3 m3 d3, .int .i64 L', .int .i64 K', .int .i64 T', .int .i64 E'] 25 (0, 0))) ∧ Hid (Off W (w.heap.size + 2) B1 m1 d1 (ints G')) ∧ Hid (Off W (w.heap.size + 2) B3 m3 d3 (ints Q')) ∧ Hid (Apt B1 B3) ∧ Hid (∀ b, B1 = some b → b.block ≠ g) ∧ Hid (∀ b, B3 = some b → b.block ≠ g) ∧ Hid (Below w.heap.size w W) ∧ m1 ≤ 12 ∧ m3 ≤ 12
theorem RunS.below {w W : World} {g : Nat} {M' : Int} {B1 : Option Addr} {m1 d1 : Nat} {G' : List Int} {S' : Int} {B3 : Option Addr} {m3 d3 : Nat} {Q' : List Int} {L' K' T' E' : Int} {W' : World} (h : RunS w g M' B1 m1 d1 G' S' B3 m3 d3 Q' L' K' T' E' W) (hb : Below W.heap.size W W') : RunS w g M' B1 m1 d1 G' S' B3 m3 d3 Q' L' K' T' E' W' := ⟨h.1, be_box h.2.1 hb, be_box h.2.2.1 hb, Lib.hid (h.2.2.2.1.out.below hb), Lib.hid (h.2.2.2.2.1.out.below hb), h.2.2.2.2.2.1, h.2.2.2.2.2.2.1, h.2.2.2.2.2.2.2.1, Lib.hid (seqB h.2.2.2.2.2.2.2.2.1.out hb), h.2.2.2.2.2.2.2.2.2⟩
theorem RunS.drew {w W : World} {g : Nat} {M' : Int} {B1 : Option Addr} {m1 d1 : Nat} {G' : List Int} {S' : Int} {B3 : Option Addr} {m3 d3 : Nat} {Q' : List Int} {L' K' T' E' : Int} (h : RunS w g M' B1 m1 d1 G' S' B3 m3 d3 Q' L' K' T' E' W) : RunS w g M' B1 m1 d1 G' S' B3 m3 d3 Q' L' K' T' E' W.drew := ⟨h.1, h.2.1, h.2.2.1, h.2.2.2.1, h.2.2.2.2.1, h.2.2.2.2.2.1, h.2.2.2.2.2.2.1, h.2.2.2.2.2.2.2.1, Lib.hid ⟨h.2.2.2.2.2.2.2.2.1.out.os, h.2.2.2.2.2.2.2.2.1.out.tape, h.2.2.2.2.2.2.2.2.1.out.output, h.2.2.2.2.2.2.2.2.1.out.size, h.2.2.2.2.2.2.2.2.1.out.block⟩, h.2.2.2.2.2.2.2.2.2⟩
theorem RunS.al {w W : World} {g : Nat} {M' : Int} {B1 : Option Addr} {m1 d1 : Nat} {G' : List Int} {S' : Int} {B3 : Option Addr} {m3 d3 : Nat} {Q' : List Int} {L' K' T' E' : Int} (h : RunS w g M' B1 m1 d1 G' S' B3 m3 d3 Q' L' K' T' E' W) (o : Obj) : RunS w g M' B1 m1 d1 G' S' B3 m3 d3 Q' L' K' T' E' (W.alloc o) := h.below (allocB (Below.refl _ _) o)
theorem farK {g p j i : Nat} {w : World} {v u : Value} (h : w.cell? ⟨p, i, none⟩ = some v) (hne : p ≠ g) : (w.setCell ⟨g, j, none⟩ u).cell? ⟨p, i, none⟩ = some v := by
  rw [World.cell?_setCell_other _ _ _ _ (by first | (simp; done) | (simp; omega))]; exact h
theorem farK8 {g p i : Nat} {w : World} {v : Value} (h : w.cell? ⟨p, i, none⟩ = some v) (hne : p ≠ g) (a b c d e f g9 h9 : Value) : ((((((((w.setCell ⟨g, 0, none⟩ (a)).setCell ⟨g, 1, none⟩ (b)).setCell ⟨g, 2, none⟩ (c)).setCell ⟨g, 3, none⟩ (d)).setCell ⟨g, 4, none⟩ (e)).setCell ⟨g, 5, none⟩ (f)).setCell ⟨g, 6, none⟩ (g9)).setCell ⟨g, 7, none⟩ (h9)).cell? ⟨p, i, none⟩ = some v := farK (farK (farK (farK (farK (farK (farK (farK h hne) hne) hne) hne) hne) hne) hne) hne
theorem RunS.far8 {w W : World} {g : Nat} {M' : Int} {B1 : Option Addr} {m1 d1 : Nat} {G' : List Int} {S' : Int} {B3 : Option Addr} {m3 d3 : Nat} {Q' : List Int} {L' K' T' E' : Int} {q : Nat} (h : RunS w g M' B1 m1 d1 G' S' B3 m3 d3 Q' L' K' T' E' W) (hq : w.heap.size + 1 < q) (hne : q ≠ g) (h1 : ∀ a, B1 = some a → a.block ≠ q) (h3 : ∀ a, B3 = some a → a.block ≠ q) (a b c d e f g9 h9 : Value) : RunS w g M' B1 m1 d1 G' S' B3 m3 d3 Q' L' K' T' E' ((((((((W.setCell ⟨q, 0, none⟩ (a)).setCell ⟨q, 1, none⟩ (b)).setCell ⟨q, 2, none⟩ (c)).setCell ⟨q, 3, none⟩ (d)).setCell ⟨q, 4, none⟩ (e)).setCell ⟨q, 5, none⟩ (f)).setCell ⟨q, 6, none⟩ (g9)).setCell ⟨q, 7, none⟩ (h9)) := ⟨h.1, box8 h.2.1 (by omega) _ _ _ _ _ _ _ _, box8 h.2.2.1 (fun e => hne e.symm) _ _ _ _ _ _ _ _, Lib.hid (off8 h.2.2.2.1.out h1 _ _ _ _ _ _ _ _), Lib.hid (off8 h.2.2.2.2.1.out h3 _ _ _ _ _ _ _ _), h.2.2.2.2.2.1, h.2.2.2.2.2.2.1, h.2.2.2.2.2.2.2.1, Lib.hid (be8 h.2.2.2.2.2.2.2.2.1.out (by omega) _ _ _ _ _ _ _ _), h.2.2.2.2.2.2.2.2.2⟩
theorem RunS.all {w W : World} {g : Nat} {M' : Int} {B1 : Option Addr} {m1 d1 : Nat} {G' : List Int} {S' : Int} {B3 : Option Addr} {m3 d3 : Nat} {Q' : List Int} {L' K' T' E' : Int} {M2 : Int} {C1 : Option Addr} {k1 e1 : Nat} {G2 : List Int} {S2 : Int} {C3 : Option Addr} {k3 e3 : Nat} {Q2 : List Int} {L2 K2 T2 E2 : Int} (h : RunS w g M' B1 m1 d1 G' S' B3 m3 d3 Q' L' K' T' E' W) (h1 : Off W (w.heap.size + 2) C1 k1 e1 (ints G2)) (h3 : Off W (w.heap.size + 2) C3 k3 e3 (ints Q2)) (ha : Apt C1 C3) (hn1 : ∀ b, C1 = some b → b.block ≠ g) (hn3 : ∀ b, C3 = some b → b.block ≠ g) (hk1 : k1 ≤ 12) (hk3 : k3 ≤ 12) : RunS w g M2 C1 k1 e1 G2 S2 C3 k3 e3 Q2 L2 K2 T2 E2 ((((((((W.setCell ⟨g, 0, none⟩ (.int .i64 M2)).setCell ⟨g, 1, none⟩ (.slice C1 k1 e1)).setCell ⟨g, 2, none⟩ (.int .i64 S2)).setCell ⟨g, 3, none⟩ (.slice C3 k3 e3)).setCell ⟨g, 4, none⟩ (.int .i64 L2)).setCell ⟨g, 5, none⟩ (.int .i64 K2)).setCell ⟨g, 6, none⟩ (.int .i64 T2)).setCell ⟨g, 7, none⟩ (.int .i64 E2)) :=
  ⟨h.1, box8 h.2.1 (by have := h.1; omega) _ _ _ _ _ _ _ _, set8_cells h.2.2.1 _ _ _ _ _ _ _ _, Lib.hid (off8 h1 hn1 _ _ _ _ _ _ _ _), Lib.hid (off8 h3 hn3 _ _ _ _ _ _ _ _), Lib.hid ha, Lib.hid hn1, Lib.hid hn3, Lib.hid (be8 h.2.2.2.2.2.2.2.2.1.out (by have := h.1; omega) _ _ _ _ _ _ _ _), hk1, hk3⟩
theorem retRun {w W : World} {b0 : Nat} {M2 : Int} {C1 : Option Addr} {k1 e1 : Nat} {G2 : List Int} {S2 : Int} {C3 : Option Addr} {k3 e3 : Nat} {Q2 : List Int} {L2 K2 T2 E2 : Int} {n : Int} (h1 : Off W b0 C1 k1 e1 (ints G2)) (h3 : Off W b0 C3 k3 e3 (ints Q2)) (ha : Apt C1 C3) (hb : w.heap.size + 2 ≤ b0) (hg : Below w.heap.size w W) (hk1 : k1 ≤ 12) (hk3 : k3 ≤ 12) :
    RetPR w (.returned (.tuple #[.agg #[.int .i64 M2, .slice C1 k1 e1, .int .i64 S2, .slice C3 k3 e3, .int .i64 L2, .int .i64 K2, .int .i64 T2, .int .i64 E2], .int .i64 n])) ((((((((W.setCell ⟨(w.heap.size + 1), 0, none⟩ (.int .i64 M2)).setCell ⟨(w.heap.size + 1), 1, none⟩ (.slice C1 k1 e1)).setCell ⟨(w.heap.size + 1), 2, none⟩ (.int .i64 S2)).setCell ⟨(w.heap.size + 1), 3, none⟩ (.slice C3 k3 e3)).setCell ⟨(w.heap.size + 1), 4, none⟩ (.int .i64 L2)).setCell ⟨(w.heap.size + 1), 5, none⟩ (.int .i64 K2)).setCell ⟨(w.heap.size + 1), 6, none⟩ (.int .i64 T2)).setCell ⟨(w.heap.size + 1), 7, none⟩ (.int .i64 E2)) :=
  ⟨_, n, rfl, ⟨M2, C1, k1, e1, G2, S2, C3, k3, e3, Q2, L2, K2, T2, E2, rfl, hk1, hk3, (off8 h1 (fun a e => by have := (h1.ge a e).1; omega) _ _ _ _ _ _ _ _).mono (by omega), (off8 h3 (fun a e => by have := (h3.ge a e).1; omega) _ _ _ _ _ _ _ _).mono (by omega), ha⟩, be8 hg (by omega) _ _ _ _ _ _ _ _⟩
set_option maxRecDepth 100000 in
set_option maxHeartbeats 8000000 in
theorem runC (M : Int) (A1 : Option Addr) (n1 c1 : Nat) (G : List Int) (S : Int) (A3 : Option Addr) (n3 c3 : Nat) (Q : List Int) (L K T E : Int) (AL : Option Addr) (ml cl : Nat) (ds : List (Int × Int)) (w : World) (hn1 : G.length = n1) (hm1 : n1 ≤ 1048576) (hA1 : Rd w A1 (ints G)) (hn3 : Q.length = n3) (hm3 : n3 ≤ 1048576) (hA3 : Rd w A3 (ints Q)) (hz1 : A1 = none → n1 = 0 ∧ c1 = 0) (hz3 : A3 = none → n3 = 0 ∧ c3 = 0) (hds : ds.length = ml) (hml : ml ≤ 1000) (hAL : Rd w AL (flatD ds)) :
    Calls Tryd.prog 24 #[.agg #[.int .i64 M, .slice A1 n1 c1, .int .i64 S, .slice A3 n3 c3, .int .i64 L, .int .i64 K, .int .i64 T, .int .i64 E], .slice AL ml cl] w (RetPR w) := by
  have HA1 := Lib.hid hA1; have HA3 := Lib.hid hA3; have HAL := Lib.hid hAL; clear hA1 hA3 hAL
  have HN1 := Lib.hid hn1; have HN3 := Lib.hid hn3; have HDS := Lib.hid hds; clear hn1 hn3 hds
  have HZ1 := Lib.hid hz1; have HZ3 := Lib.hid hz3; clear hz1 hz3
  have HG := Lib.hid (Below.refl w.heap.size w)
  go_enter Tryd.func24, Tryd.ntmps24
  have B_p := new_box w (.cells #[.int .i64 M, .slice A1 n1 c1, .int .i64 S, .slice A3 n3 c3, .int .i64 L, .int .i64 K, .int .i64 T, .int .i64 E] 25)
  have Z_p : w.heap.size ≤ w.heap.size := by have := HG.out.size; first | omega | (simp at this; omega) | (simp at this ⊢; omega)
  replace HG := Lib.hid (allocB HG.out (.cells #[.int .i64 M, .slice A1 n1 c1, .int .i64 S, .slice A3 n3 c3, .int .i64 L, .int .i64 K, .int .i64 T, .int .i64 E] 25))
  have M0_p := blk_lt B_p.out
  replace M0_p : w.heap.size < (w.heap.size + 1) := by first | (simp; done) | (simp; omega) | omega
  replace B_p := al_box B_p (.cells #[.int .i64 0, .slice none 0 0, .int .i64 0, .slice none 0 0, .int .i64 0, .int .i64 0, .int .i64 0, .int .i64 0] 25)
  have B_r := new_box (w.alloc (.cells #[.int .i64 M, .slice A1 n1 c1, .int .i64 S, .slice A3 n3 c3, .int .i64 L, .int .i64 K, .int .i64 T, .int .i64 E] 25)) (.cells #[.int .i64 0, .slice none 0 0, .int .i64 0, .slice none 0 0, .int .i64 0, .int .i64 0, .int .i64 0, .int .i64 0] 25)
  replace B_r : Hid (((w.alloc (.cells #[.int .i64 M, .slice A1 n1 c1, .int .i64 S, .slice A3 n3 c3, .int .i64 L, .int .i64 K, .int .i64 T, .int .i64 E] 25)).alloc (.cells #[.int .i64 0, .slice none 0 0, .int .i64 0, .slice none 0 0, .int .i64 0, .int .i64 0, .int .i64 0, .int .i64 0] 25)).heap[(w.heap.size + 1)]? = some (.cells #[.int .i64 0, .slice none 0 0, .int .i64 0, .slice none 0 0, .int .i64 0, .int .i64 0, .int .i64 0, .int .i64 0] 25 (0, 0))) := by have := B_r.out; rw [Hid]; simpa using this
  have Z_r : w.heap.size ≤ (w.heap.size + 1) := by have := HG.out.size; first | omega | (simp at this; omega) | (simp at this ⊢; omega)
  have M_p_r : w.heap.size < (w.heap.size + 1) := M0_p
  replace HG := Lib.hid (allocB HG.out (.cells #[.int .i64 0, .slice none 0 0, .int .i64 0, .slice none 0 0, .int .i64 0, .int .i64 0, .int .i64 0, .int .i64 0] 25))
  have c_p_0 : ((w.alloc (.cells #[.int .i64 M, .slice A1 n1 c1, .int .i64 S, .slice A3 n3 c3, .int .i64 L, .int .i64 K, .int .i64 T, .int .i64 E] 25)).alloc (.cells #[.int .i64 0, .slice none 0 0, .int .i64 0, .slice none 0 0, .int .i64 0, .int .i64 0, .int .i64 0, .int .i64 0] 25)).cell? ⟨w.heap.size, 0, none⟩ = some (.int .i64 M) := box_cell B_p 0
  have c_p_1 : ((w.alloc (.cells #[.int .i64 M, .slice A1 n1 c1, .int .i64 S, .slice A3 n3 c3, .int .i64 L, .int .i64 K, .int .i64 T, .int .i64 E] 25)).alloc (.cells #[.int .i64 0, .slice none 0 0, .int .i64 0, .slice none 0 0, .int .i64 0, .int .i64 0, .int .i64 0, .int .i64 0] 25)).cell? ⟨w.heap.size, 1, none⟩ = some (.slice A1 n1 c1) := box_cell B_p 1
  have c_p_2 : ((w.alloc (.cells #[.int .i64 M, .slice A1 n1 c1, .int .i64 S, .slice A3 n3 c3, .int .i64 L, .int .i64 K, .int .i64 T, .int .i64 E] 25)).alloc (.cells #[.int .i64 0, .slice none 0 0, .int .i64 0, .slice none 0 0, .int .i64 0, .int .i64 0, .int .i64 0, .int .i64 0] 25)).cell? ⟨w.heap.size, 2, none⟩ = some (.int .i64 S) := box_cell B_p 2
  have c_p_3 : ((w.alloc (.cells #[.int .i64 M, .slice A1 n1 c1, .int .i64 S, .slice A3 n3 c3, .int .i64 L, .int .i64 K, .int .i64 T, .int .i64 E] 25)).alloc (.cells #[.int .i64 0, .slice none 0 0, .int .i64 0, .slice none 0 0, .int .i64 0, .int .i64 0, .int .i64 0, .int .i64 0] 25)).cell? ⟨w.heap.size, 3, none⟩ = some (.slice A3 n3 c3) := box_cell B_p 3
  have c_p_4 : ((w.alloc (.cells #[.int .i64 M, .slice A1 n1 c1, .int .i64 S, .slice A3 n3 c3, .int .i64 L, .int .i64 K, .int .i64 T, .int .i64 E] 25)).alloc (.cells #[.int .i64 0, .slice none 0 0, .int .i64 0, .slice none 0 0, .int .i64 0, .int .i64 0, .int .i64 0, .int .i64 0] 25)).cell? ⟨w.heap.size, 4, none⟩ = some (.int .i64 L) := box_cell B_p 4
  have c_p_5 : ((w.alloc (.cells #[.int .i64 M, .slice A1 n1 c1, .int .i64 S, .slice A3 n3 c3, .int .i64 L, .int .i64 K, .int .i64 T, .int .i64 E] 25)).alloc (.cells #[.int .i64 0, .slice none 0 0, .int .i64 0, .slice none 0 0, .int .i64 0, .int .i64 0, .int .i64 0, .int .i64 0] 25)).cell? ⟨w.heap.size, 5, none⟩ = some (.int .i64 K) := box_cell B_p 5
  have c_p_6 : ((w.alloc (.cells #[.int .i64 M, .slice A1 n1 c1, .int .i64 S, .slice A3 n3 c3, .int .i64 L, .int .i64 K, .int .i64 T, .int .i64 E] 25)).alloc (.cells #[.int .i64 0, .slice none 0 0, .int .i64 0, .slice none 0 0, .int .i64 0, .int .i64 0, .int .i64 0, .int .i64 0] 25)).cell? ⟨w.heap.size, 6, none⟩ = some (.int .i64 T) := box_cell B_p 6
  have c_p_7 : ((w.alloc (.cells #[.int .i64 M, .slice A1 n1 c1, .int .i64 S, .slice A3 n3 c3, .int .i64 L, .int .i64 K, .int .i64 T, .int .i64 E] 25)).alloc (.cells #[.int .i64 0, .slice none 0 0, .int .i64 0, .slice none 0 0, .int .i64 0, .int .i64 0, .int .i64 0, .int .i64 0] 25)).cell? ⟨w.heap.size, 7, none⟩ = some (.int .i64 E) := box_cell B_p 7
  have ha1 := HA1.out.below HG.out; have ha3 := HA3.out.below HG.out
  go_wp2_with fail
  refine (specPV M A1 n1 c1 G S A3 n3 c3 Q L K T E _ HN1.out hm1 ha1 HN3.out hm3 ha3).mono ?_
  rintro e w1 ⟨rfl, hbn⟩
  clear ha1 ha3
  replace B_p := be_box B_p hbn
  replace B_r := be_box B_r hbn
  replace HG := Lib.hid (seqB HG.out hbn)
  clear hbn
  clear M0_p c_p_0 c_p_1 c_p_2 c_p_3 c_p_4 c_p_5 c_p_6 c_p_7
  cases hv : pollB M S L K T E G Q with
  | false =>
    have k_r_1 : w1.cell? ⟨(w.heap.size + 1), 0, none⟩ = some (.int .i64 0) := box_cell B_r 0
    have y_r_1 : w1.frozen? ⟨(w.heap.size + 1), 0, none⟩ = false := box_free B_r 0
    replace B_p := st_box (g' := (w.heap.size + 1)) (j := 0) B_p (.int .i64 0) (by omega)
    replace B_r := st_same B_r 0 (.int .i64 0)
    replace HG := Lib.hid (be_set (g := (w.heap.size + 1)) (j := 0) (u := .int .i64 0) HG.out  Z_r)
    replace B_r : Hid ((w1.setCell ⟨(w.heap.size + 1), 0, none⟩ (.int .i64 0)).heap[(w.heap.size + 1)]? = some (.cells #[.int .i64 0, .slice none 0 0, .int .i64 0, .slice none 0 0, .int .i64 0, .int .i64 0, .int .i64 0, .int .i64 0] 25 (0, 0))) := B_r
    have k_r_2 : (w1.setCell ⟨(w.heap.size + 1), 0, none⟩ (.int .i64 0)).cell? ⟨(w.heap.size + 1), 1, none⟩ = some (.slice none 0 0) := box_cell B_r 1
    have y_r_2 : (w1.setCell ⟨(w.heap.size + 1), 0, none⟩ (.int .i64 0)).frozen? ⟨(w.heap.size + 1), 1, none⟩ = false := box_free B_r 1
    replace B_p := st_box (g' := (w.heap.size + 1)) (j := 1) B_p (.slice none 0 0) (by omega)
    replace B_r := st_same B_r 1 (.slice none 0 0)
    replace HG := Lib.hid (be_set (g := (w.heap.size + 1)) (j := 1) (u := .slice none 0 0) HG.out  Z_r)
    replace B_r : Hid (((w1.setCell ⟨(w.heap.size + 1), 0, none⟩ (.int .i64 0)).setCell ⟨(w.heap.size + 1), 1, none⟩ (.slice none 0 0)).heap[(w.heap.size + 1)]? = some (.cells #[.int .i64 0, .slice none 0 0, .int .i64 0, .slice none 0 0, .int .i64 0, .int .i64 0, .int .i64 0, .int .i64 0] 25 (0, 0))) := B_r
    have k_r_3 : ((w1.setCell ⟨(w.heap.size + 1), 0, none⟩ (.int .i64 0)).setCell ⟨(w.heap.size + 1), 1, none⟩ (.slice none 0 0)).cell? ⟨(w.heap.size + 1), 2, none⟩ = some (.int .i64 0) := box_cell B_r 2
    have y_r_3 : ((w1.setCell ⟨(w.heap.size + 1), 0, none⟩ (.int .i64 0)).setCell ⟨(w.heap.size + 1), 1, none⟩ (.slice none 0 0)).frozen? ⟨(w.heap.size + 1), 2, none⟩ = false := box_free B_r 2
    replace B_p := st_box (g' := (w.heap.size + 1)) (j := 2) B_p (.int .i64 0) (by omega)
    replace B_r := st_same B_r 2 (.int .i64 0)
    replace HG := Lib.hid (be_set (g := (w.heap.size + 1)) (j := 2) (u := .int .i64 0) HG.out  Z_r)
    replace B_r : Hid ((((w1.setCell ⟨(w.heap.size + 1), 0, none⟩ (.int .i64 0)).setCell ⟨(w.heap.size + 1), 1, none⟩ (.slice none 0 0)).setCell ⟨(w.heap.size + 1), 2, none⟩ (.int .i64 0)).heap[(w.heap.size + 1)]? = some (.cells #[.int .i64 0, .slice none 0 0, .int .i64 0, .slice none 0 0, .int .i64 0, .int .i64 0, .int .i64 0, .int .i64 0] 25 (0, 0))) := B_r
    have k_r_4 : (((w1.setCell ⟨(w.heap.size + 1), 0, none⟩ (.int .i64 0)).setCell ⟨(w.heap.size + 1), 1, none⟩ (.slice none 0 0)).setCell ⟨(w.heap.size + 1), 2, none⟩ (.int .i64 0)).cell? ⟨(w.heap.size + 1), 3, none⟩ = some (.slice none 0 0) := box_cell B_r 3
    have y_r_4 : (((w1.setCell ⟨(w.heap.size + 1), 0, none⟩ (.int .i64 0)).setCell ⟨(w.heap.size + 1), 1, none⟩ (.slice none 0 0)).setCell ⟨(w.heap.size + 1), 2, none⟩ (.int .i64 0)).frozen? ⟨(w.heap.size + 1), 3, none⟩ = false := box_free B_r 3
    replace B_p := st_box (g' := (w.heap.size + 1)) (j := 3) B_p (.slice none 0 0) (by omega)
    replace B_r := st_same B_r 3 (.slice none 0 0)
    replace HG := Lib.hid (be_set (g := (w.heap.size + 1)) (j := 3) (u := .slice none 0 0) HG.out  Z_r)
    replace B_r : Hid (((((w1.setCell ⟨(w.heap.size + 1), 0, none⟩ (.int .i64 0)).setCell ⟨(w.heap.size + 1), 1, none⟩ (.slice none 0 0)).setCell ⟨(w.heap.size + 1), 2, none⟩ (.int .i64 0)).setCell ⟨(w.heap.size + 1), 3, none⟩ (.slice none 0 0)).heap[(w.heap.size + 1)]? = some (.cells #[.int .i64 0, .slice none 0 0, .int .i64 0, .slice none 0 0, .int .i64 0, .int .i64 0, .int .i64 0, .int .i64 0] 25 (0, 0))) := B_r
    have k_r_5 : ((((w1.setCell ⟨(w.heap.size + 1), 0, none⟩ (.int .i64 0)).setCell ⟨(w.heap.size + 1), 1, none⟩ (.slice none 0 0)).setCell ⟨(w.heap.size + 1), 2, none⟩ (.int .i64 0)).setCell ⟨(w.heap.size + 1), 3, none⟩ (.slice none 0 0)).cell? ⟨(w.heap.size + 1), 4, none⟩ = some (.int .i64 0) := box_cell B_r 4
    have y_r_5 : ((((w1.setCell ⟨(w.heap.size + 1), 0, none⟩ (.int .i64 0)).setCell ⟨(w.heap.size + 1), 1, none⟩ (.slice none 0 0)).setCell ⟨(w.heap.size + 1), 2, none⟩ (.int .i64 0)).setCell ⟨(w.heap.size + 1), 3, none⟩ (.slice none 0 0)).frozen? ⟨(w.heap.size + 1), 4, none⟩ = false := box_free B_r 4
    replace B_p := st_box (g' := (w.heap.size + 1)) (j := 4) B_p (.int .i64 0) (by omega)
    replace B_r := st_same B_r 4 (.int .i64 0)
    replace HG := Lib.hid (be_set (g := (w.heap.size + 1)) (j := 4) (u := .int .i64 0) HG.out  Z_r)
    replace B_r : Hid ((((((w1.setCell ⟨(w.heap.size + 1), 0, none⟩ (.int .i64 0)).setCell ⟨(w.heap.size + 1), 1, none⟩ (.slice none 0 0)).setCell ⟨(w.heap.size + 1), 2, none⟩ (.int .i64 0)).setCell ⟨(w.heap.size + 1), 3, none⟩ (.slice none 0 0)).setCell ⟨(w.heap.size + 1), 4, none⟩ (.int .i64 0)).heap[(w.heap.size + 1)]? = some (.cells #[.int .i64 0, .slice none 0 0, .int .i64 0, .slice none 0 0, .int .i64 0, .int .i64 0, .int .i64 0, .int .i64 0] 25 (0, 0))) := B_r
    have k_r_6 : (((((w1.setCell ⟨(w.heap.size + 1), 0, none⟩ (.int .i64 0)).setCell ⟨(w.heap.size + 1), 1, none⟩ (.slice none 0 0)).setCell ⟨(w.heap.size + 1), 2, none⟩ (.int .i64 0)).setCell ⟨(w.heap.size + 1), 3, none⟩ (.slice none 0 0)).setCell ⟨(w.heap.size + 1), 4, none⟩ (.int .i64 0)).cell? ⟨(w.heap.size + 1), 5, none⟩ = some (.int .i64 0) := box_cell B_r 5
    have y_r_6 : (((((w1.setCell ⟨(w.heap.size + 1), 0, none⟩ (.int .i64 0)).setCell ⟨(w.heap.size + 1), 1, none⟩ (.slice none 0 0)).setCell ⟨(w.heap.size + 1), 2, none⟩ (.int .i64 0)).setCell ⟨(w.heap.size + 1), 3, none⟩ (.slice none 0 0)).setCell ⟨(w.heap.size + 1), 4, none⟩ (.int .i64 0)).frozen? ⟨(w.heap.size + 1), 5, none⟩ = false := box_free B_r 5
    replace B_p := st_box (g' := (w.heap.size + 1)) (j := 5) B_p (.int .i64 0) (by omega)
    replace B_r := st_same B_r 5 (.int .i64 0)
    replace HG := Lib.hid (be_set (g := (w.heap.size + 1)) (j := 5) (u := .int .i64 0) HG.out  Z_r)
    replace B_r : Hid (((((((w1.setCell ⟨(w.heap.size + 1), 0, none⟩ (.int .i64 0)).setCell ⟨(w.heap.size + 1), 1, none⟩ (.slice none 0 0)).setCell ⟨(w.heap.size + 1), 2, none⟩ (.int .i64 0)).setCell ⟨(w.heap.size + 1), 3, none⟩ (.slice none 0 0)).setCell ⟨(w.heap.size + 1), 4, none⟩ (.int .i64 0)).setCell ⟨(w.heap.size + 1), 5, none⟩ (.int .i64 0)).heap[(w.heap.size + 1)]? = some (.cells #[.int .i64 0, .slice none 0 0, .int .i64 0, .slice none 0 0, .int .i64 0, .int .i64 0, .int .i64 0, .int .i64 0] 25 (0, 0))) := B_r
    have k_r_7 : ((((((w1.setCell ⟨(w.heap.size + 1), 0, none⟩ (.int .i64 0)).setCell ⟨(w.heap.size + 1), 1, none⟩ (.slice none 0 0)).setCell ⟨(w.heap.size + 1), 2, none⟩ (.int .i64 0)).setCell ⟨(w.heap.size + 1), 3, none⟩ (.slice none 0 0)).setCell ⟨(w.heap.size + 1), 4, none⟩ (.int .i64 0)).setCell ⟨(w.heap.size + 1), 5, none⟩ (.int .i64 0)).cell? ⟨(w.heap.size + 1), 6, none⟩ = some (.int .i64 0) := box_cell B_r 6
    have y_r_7 : ((((((w1.setCell ⟨(w.heap.size + 1), 0, none⟩ (.int .i64 0)).setCell ⟨(w.heap.size + 1), 1, none⟩ (.slice none 0 0)).setCell ⟨(w.heap.size + 1), 2, none⟩ (.int .i64 0)).setCell ⟨(w.heap.size + 1), 3, none⟩ (.slice none 0 0)).setCell ⟨(w.heap.size + 1), 4, none⟩ (.int .i64 0)).setCell ⟨(w.heap.size + 1), 5, none⟩ (.int .i64 0)).frozen? ⟨(w.heap.size + 1), 6, none⟩ = false := box_free B_r 6
    replace B_p := st_box (g' := (w.heap.size + 1)) (j := 6) B_p (.int .i64 0) (by omega)
    replace B_r := st_same B_r 6 (.int .i64 0)
    replace HG := Lib.hid (be_set (g := (w.heap.size + 1)) (j := 6) (u := .int .i64 0) HG.out  Z_r)
    replace B_r : Hid ((((((((w1.setCell ⟨(w.heap.size + 1), 0, none⟩ (.int .i64 0)).setCell ⟨(w.heap.size + 1), 1, none⟩ (.slice none 0 0)).setCell ⟨(w.heap.size + 1), 2, none⟩ (.int .i64 0)).setCell ⟨(w.heap.size + 1), 3, none⟩ (.slice none 0 0)).setCell ⟨(w.heap.size + 1), 4, none⟩ (.int .i64 0)).setCell ⟨(w.heap.size + 1), 5, none⟩ (.int .i64 0)).setCell ⟨(w.heap.size + 1), 6, none⟩ (.int .i64 0)).heap[(w.heap.size + 1)]? = some (.cells #[.int .i64 0, .slice none 0 0, .int .i64 0, .slice none 0 0, .int .i64 0, .int .i64 0, .int .i64 0, .int .i64 0] 25 (0, 0))) := B_r
    have k_r_8 : (((((((w1.setCell ⟨(w.heap.size + 1), 0, none⟩ (.int .i64 0)).setCell ⟨(w.heap.size + 1), 1, none⟩ (.slice none 0 0)).setCell ⟨(w.heap.size + 1), 2, none⟩ (.int .i64 0)).setCell ⟨(w.heap.size + 1), 3, none⟩ (.slice none 0 0)).setCell ⟨(w.heap.size + 1), 4, none⟩ (.int .i64 0)).setCell ⟨(w.heap.size + 1), 5, none⟩ (.int .i64 0)).setCell ⟨(w.heap.size + 1), 6, none⟩ (.int .i64 0)).cell? ⟨(w.heap.size + 1), 7, none⟩ = some (.int .i64 0) := box_cell B_r 7
    have y_r_8 : (((((((w1.setCell ⟨(w.heap.size + 1), 0, none⟩ (.int .i64 0)).setCell ⟨(w.heap.size + 1), 1, none⟩ (.slice none 0 0)).setCell ⟨(w.heap.size + 1), 2, none⟩ (.int .i64 0)).setCell ⟨(w.heap.size + 1), 3, none⟩ (.slice none 0 0)).setCell ⟨(w.heap.size + 1), 4, none⟩ (.int .i64 0)).setCell ⟨(w.heap.size + 1), 5, none⟩ (.int .i64 0)).setCell ⟨(w.heap.size + 1), 6, none⟩ (.int .i64 0)).frozen? ⟨(w.heap.size + 1), 7, none⟩ = false := box_free B_r 7
    replace B_p := st_box (g' := (w.heap.size + 1)) (j := 7) B_p (.int .i64 0) (by omega)
    replace B_r := st_same B_r 7 (.int .i64 0)
    replace HG := Lib.hid (be_set (g := (w.heap.size + 1)) (j := 7) (u := .int .i64 0) HG.out  Z_r)
    replace B_r : Hid (((((((((w1.setCell ⟨(w.heap.size + 1), 0, none⟩ (.int .i64 0)).setCell ⟨(w.heap.size + 1), 1, none⟩ (.slice none 0 0)).setCell ⟨(w.heap.size + 1), 2, none⟩ (.int .i64 0)).setCell ⟨(w.heap.size + 1), 3, none⟩ (.slice none 0 0)).setCell ⟨(w.heap.size + 1), 4, none⟩ (.int .i64 0)).setCell ⟨(w.heap.size + 1), 5, none⟩ (.int .i64 0)).setCell ⟨(w.heap.size + 1), 6, none⟩ (.int .i64 0)).setCell ⟨(w.heap.size + 1), 7, none⟩ (.int .i64 0)).heap[(w.heap.size + 1)]? = some (.cells #[.int .i64 0, .slice none 0 0, .int .i64 0, .slice none 0 0, .int .i64 0, .int .i64 0, .int .i64 0, .int .i64 0] 25 (0, 0))) := B_r
    have c_r_0 : ((((((((w1.setCell ⟨(w.heap.size + 1), 0, none⟩ (.int .i64 0)).setCell ⟨(w.heap.size + 1), 1, none⟩ (.slice none 0 0)).setCell ⟨(w.heap.size + 1), 2, none⟩ (.int .i64 0)).setCell ⟨(w.heap.size + 1), 3, none⟩ (.slice none 0 0)).setCell ⟨(w.heap.size + 1), 4, none⟩ (.int .i64 0)).setCell ⟨(w.heap.size + 1), 5, none⟩ (.int .i64 0)).setCell ⟨(w.heap.size + 1), 6, none⟩ (.int .i64 0)).setCell ⟨(w.heap.size + 1), 7, none⟩ (.int .i64 0)).cell? ⟨(w.heap.size + 1), 0, none⟩ = some (.int .i64 0) := box_cell B_r 0
    have c_r_1 : ((((((((w1.setCell ⟨(w.heap.size + 1), 0, none⟩ (.int .i64 0)).setCell ⟨(w.heap.size + 1), 1, none⟩ (.slice none 0 0)).setCell ⟨(w.heap.size + 1), 2, none⟩ (.int .i64 0)).setCell ⟨(w.heap.size + 1), 3, none⟩ (.slice none 0 0)).setCell ⟨(w.heap.size + 1), 4, none⟩ (.int .i64 0)).setCell ⟨(w.heap.size + 1), 5, none⟩ (.int .i64 0)).setCell ⟨(w.heap.size + 1), 6, none⟩ (.int .i64 0)).setCell ⟨(w.heap.size + 1), 7, none⟩ (.int .i64 0)).cell? ⟨(w.heap.size + 1), 1, none⟩ = some (.slice none 0 0) := box_cell B_r 1
    have c_r_2 : ((((((((w1.setCell ⟨(w.heap.size + 1), 0, none⟩ (.int .i64 0)).setCell ⟨(w.heap.size + 1), 1, none⟩ (.slice none 0 0)).setCell ⟨(w.heap.size + 1), 2, none⟩ (.int .i64 0)).setCell ⟨(w.heap.size + 1), 3, none⟩ (.slice none 0 0)).setCell ⟨(w.heap.size + 1), 4, none⟩ (.int .i64 0)).setCell ⟨(w.heap.size + 1), 5, none⟩ (.int .i64 0)).setCell ⟨(w.heap.size + 1), 6, none⟩ (.int .i64 0)).setCell ⟨(w.heap.size + 1), 7, none⟩ (.int .i64 0)).cell? ⟨(w.heap.size + 1), 2, none⟩ = some (.int .i64 0) := box_cell B_r 2
    have c_r_3 : ((((((((w1.setCell ⟨(w.heap.size + 1), 0, none⟩ (.int .i64 0)).setCell ⟨(w.heap.size + 1), 1, none⟩ (.slice none 0 0)).setCell ⟨(w.heap.size + 1), 2, none⟩ (.int .i64 0)).setCell ⟨(w.heap.size + 1), 3, none⟩ (.slice none 0 0)).setCell ⟨(w.heap.size + 1), 4, none⟩ (.int .i64 0)).setCell ⟨(w.heap.size + 1), 5, none⟩ (.int .i64 0)).setCell ⟨(w.heap.size + 1), 6, none⟩ (.int .i64 0)).setCell ⟨(w.heap.size + 1), 7, none⟩ (.int .i64 0)).cell? ⟨(w.heap.size + 1), 3, none⟩ = some (.slice none 0 0) := box_cell B_r 3
    have c_r_4 : ((((((((w1.setCell ⟨(w.heap.size + 1), 0, none⟩ (.int .i64 0)).setCell ⟨(w.heap.size + 1), 1, none⟩ (.slice none 0 0)).setCell ⟨(w.heap.size + 1), 2, none⟩ (.int .i64 0)).setCell ⟨(w.heap.size + 1), 3, none⟩ (.slice none 0 0)).setCell ⟨(w.heap.size + 1), 4, none⟩ (.int .i64 0)).setCell ⟨(w.heap.size + 1), 5, none⟩ (.int .i64 0)).setCell ⟨(w.heap.size + 1), 6, none⟩ (.int .i64 0)).setCell ⟨(w.heap.size + 1), 7, none⟩ (.int .i64 0)).cell? ⟨(w.heap.size + 1), 4, none⟩ = some (.int .i64 0) := box_cell B_r 4
    have c_r_5 : ((((((((w1.setCell ⟨(w.heap.size + 1), 0, none⟩ (.int .i64 0)).setCell ⟨(w.heap.size + 1), 1, none⟩ (.slice none 0 0)).setCell ⟨(w.heap.size + 1), 2, none⟩ (.int .i64 0)).setCell ⟨(w.heap.size + 1), 3, none⟩ (.slice none 0 0)).setCell ⟨(w.heap.size + 1), 4, none⟩ (.int .i64 0)).setCell ⟨(w.heap.size + 1), 5, none⟩ (.int .i64 0)).setCell ⟨(w.heap.size + 1), 6, none⟩ (.int .i64 0)).setCell ⟨(w.heap.size + 1), 7, none⟩ (.int .i64 0)).cell? ⟨(w.heap.size + 1), 5, none⟩ = some (.int .i64 0) := box_cell B_r 5
    have c_r_6 : ((((((((w1.setCell ⟨(w.heap.size + 1), 0, none⟩ (.int .i64 0)).setCell ⟨(w.heap.size + 1), 1, none⟩ (.slice none 0 0)).setCell ⟨(w.heap.size + 1), 2, none⟩ (.int .i64 0)).setCell ⟨(w.heap.size + 1), 3, none⟩ (.slice none 0 0)).setCell ⟨(w.heap.size + 1), 4, none⟩ (.int .i64 0)).setCell ⟨(w.heap.size + 1), 5, none⟩ (.int .i64 0)).setCell ⟨(w.heap.size + 1), 6, none⟩ (.int .i64 0)).setCell ⟨(w.heap.size + 1), 7, none⟩ (.int .i64 0)).cell? ⟨(w.heap.size + 1), 6, none⟩ = some (.int .i64 0) := box_cell B_r 6
    have c_r_7 : ((((((((w1.setCell ⟨(w.heap.size + 1), 0, none⟩ (.int .i64 0)).setCell ⟨(w.heap.size + 1), 1, none⟩ (.slice none 0 0)).setCell ⟨(w.heap.size + 1), 2, none⟩ (.int .i64 0)).setCell ⟨(w.heap.size + 1), 3, none⟩ (.slice none 0 0)).setCell ⟨(w.heap.size + 1), 4, none⟩ (.int .i64 0)).setCell ⟨(w.heap.size + 1), 5, none⟩ (.int .i64 0)).setCell ⟨(w.heap.size + 1), 6, none⟩ (.int .i64 0)).setCell ⟨(w.heap.size + 1), 7, none⟩ (.int .i64 0)).cell? ⟨(w.heap.size + 1), 7, none⟩ = some (.int .i64 0) := box_cell B_r 7
    go_wp2_with fail
    exact bodyPost_ret (v := .tuple #[.agg #[.int .i64 0, .slice none 0 0, .int .i64 0, .slice none 0 0, .int .i64 0, .int .i64 0, .int .i64 0, .int .i64 0], .int .i64 0]) (by simp [results, Tryd.results24, go_sem, c_r_0, c_r_1, c_r_2, c_r_3, c_r_4, c_r_5, c_r_6, c_r_7]) rfl ⟨_, 0, rfl, ⟨0, none, 0, 0, [], 0, none, 0, 0, [], 0, 0, 0, 0, rfl, by omega, by omega, off_zero, off_zero, apt_none⟩, HG.out⟩
  | true =>
    obtain ⟨hl1, hl3⟩ := pollB_len hv
    rw [HN1.out] at hl1; rw [HN3.out] at hl3
    clear hv
    have c_p_0 : w1.cell? ⟨w.heap.size, 0, none⟩ = some (.int .i64 M) := box_cell B_p 0
    have c_p_1 : w1.cell? ⟨w.heap.size, 1, none⟩ = some (.slice A1 n1 c1) := box_cell B_p 1
    have c_p_2 : w1.cell? ⟨w.heap.size, 2, none⟩ = some (.int .i64 S) := box_cell B_p 2
    have c_p_3 : w1.cell? ⟨w.heap.size, 3, none⟩ = some (.slice A3 n3 c3) := box_cell B_p 3
    have c_p_4 : w1.cell? ⟨w.heap.size, 4, none⟩ = some (.int .i64 L) := box_cell B_p 4
    have c_p_5 : w1.cell? ⟨w.heap.size, 5, none⟩ = some (.int .i64 K) := box_cell B_p 5
    have c_p_6 : w1.cell? ⟨w.heap.size, 6, none⟩ = some (.int .i64 T) := box_cell B_p 6
    have c_p_7 : w1.cell? ⟨w.heap.size, 7, none⟩ = some (.int .i64 E) := box_cell B_p 7
    have ha1 := HA1.out.below HG.out; have ha3 := HA3.out.below HG.out
    go_wp2_with fail
    refine (copyC M A1 n1 c1 G S A3 n3 c3 Q L K T E _ HN1.out hm1 ha1 HN3.out hm3 ha3 HZ1.out HZ3.out).mono ?_
    rintro e w2 ⟨B1, d1, B3, d3, rfl, hr1, hr3, hap, hbn⟩
    clear ha1 ha3
    have hz2 := hbn.size
    have hz1 := blk_lt B_r.out
    replace B_p := be_box B_p hbn
    replace B_r := be_box B_r hbn
    replace HG := Lib.hid (seqB HG.out hbn)
    clear hbn
    clear c_p_0 c_p_1 c_p_2 c_p_3 c_p_4 c_p_5 c_p_6 c_p_7
    have HD : Hid (RunS w w2.heap.size M B1 n1 d1 G S B3 n3 d3 Q L K T E (w2.alloc (.cells #[.int .i64 M, .slice B1 n1 d1, .int .i64 S, .slice B3 n3 d3, .int .i64 L, .int .i64 K, .int .i64 T, .int .i64 E] 25))) := Lib.hid ⟨by omega, al_box B_r _, new_box w2 _, Lib.hid ((off_row (hr1.alloc _)).mono (by omega)), Lib.hid ((off_row (hr3.alloc _)).mono (by omega)), Lib.hid hap, Lib.hid (fun b e => by have := ((off_row hr1).ge b e).2; omega), Lib.hid (fun b e => by have := ((off_row hr3).ge b e).2; omega), Lib.hid (allocB HG.out _), by omega, by omega⟩
    clear hr1 hr3 hap B_p B_r HG hz2 hz1 M_p_r Z_p Z_r HA1 HA3 HN1 HN3 HZ1 HZ3
    go_wp2_with fail
    generalize w2.alloc (.cells #[.int .i64 M, .slice B1 n1 d1, .int .i64 S, .slice B3 n3 d3, .int .i64 L, .int .i64 K, .int .i64 T, .int .i64 E] 25) = W2 at *
    generalize w2.heap.size = g at *
    go_loopg [7, 8] ml (fun kx s7 s8 wr => ∃ (k : Nat) (nn : Int) (M' : Int) (B1 : Option Addr) (m1 d1 : Nat) (G' : List Int) (S' : Int) (B3 : Option Addr) (m3 d3 : Nat) (Q' : List Int) (L' K' T' E' : Int), s7 = .int .i64 nn ∧ s8 = .int .i64 (k : Int) ∧ k ≤ ml ∧ ml - k ≤ kx ∧ Hid (RunS w g M' B1 m1 d1 G' S' B3 m3 d3 Q' L' K' T' E' wr))
    case atStart => exact ⟨0, 0, M, B1, n1, d1, G, S, B3, n3, d3, Q, L, K, T, E, rfl, rfl, by omega, by omega, HD⟩
    case round =>
      clear HD hl1 hl3
      obtain ⟨k, nn, M', B1, m1, d1, G', S', B3, m3, d3, Q', L', K', T', E', rfl, rfl, hk, hkx, HD⟩ := hrel
      by_cases hlt : k < ml
      · skip
        have hltz : (k : Int) < (ml : Int) := by omega
        have hkz : (0 : Int) ≤ (k : Int) := by omega
        have hwk : IntKind.i64.wrap ((k : Int) + 1) = (k : Int) + 1 := IntWalk.i64_in _ (by omega)
        obtain ⟨bl, ol, xx, yy, hAL, hbl, hxx, hyy⟩ := (HAL.out.below HD.out.2.2.2.2.2.2.2.2.1.out).deed (k := k) (by rw [HDS.out]; exact hlt)
        subst hAL
        replace HD := HD.out
        go_upto_region 8 with fail
        go_cut [9, 10] from 17 to 35 (fun s9 s10 wx => ∃ (q : Nat) (M2 : Int) (C1 : Option Addr) (k1 e1 : Nat) (G2 : List Int) (S2 : Int) (C3 : Option Addr) (k3 e3 : Nat) (Q2 : List Int) (L2 K2 T2 E2 : Int) (b : Bool), s9 = .pointer (some ⟨q, 0, none⟩) ∧ s10 = .bool b ∧ Hid (RunS w g M' B1 m1 d1 G' S' B3 m3 d3 Q' L' K' T' E' wx) ∧ Hid (wx.heap[q]? = some (.cells #[.int .i64 M2, .slice C1 k1 e1, .int .i64 S2, .slice C3 k3 e3, .int .i64 L2, .int .i64 K2, .int .i64 T2, .int .i64 E2] 25 (0, 0))) ∧ Hid (Off wx (w.heap.size + 2) C1 k1 e1 (ints G2)) ∧ Hid (Off wx (w.heap.size + 2) C3 k3 e3 (ints Q2)) ∧ Hid (Apt C1 C3) ∧ Hid (∀ b, C1 = some b → b.block ≠ g) ∧ Hid (∀ b, C3 = some b → b.block ≠ g) ∧ k1 ≤ 12 ∧ k3 ≤ 12)
        case first =>
          have hwr := blk_lt HD.2.2.1.out
          have HDe : RunS w g M' B1 m1 d1 G' S' B3 m3 d3 Q' L' K' T' E' (wr.alloc (.cells #[.int .i64 0, .slice none 0 0, .int .i64 0, .slice none 0 0, .int .i64 0, .int .i64 0, .int .i64 0, .int .i64 0] 25)).drew := (HD.al (.cells #[.int .i64 0, .slice none 0 0, .int .i64 0, .slice none 0 0, .int .i64 0, .int .i64 0, .int .i64 0, .int .i64 0] 25)).drew
          have HDd : RunS w g M' B1 m1 d1 G' S' B3 m3 d3 Q' L' K' T' E' wr.drew := HD.drew
          have hcd : wr.drew.cell? ⟨g, 0, none⟩ = some (.int .i64 M') ∧ wr.drew.cell? ⟨g, 1, none⟩ = some (.slice B1 m1 d1) ∧ wr.drew.cell? ⟨g, 2, none⟩ = some (.int .i64 S') ∧ wr.drew.cell? ⟨g, 3, none⟩ = some (.slice B3 m3 d3) ∧ wr.drew.cell? ⟨g, 4, none⟩ = some (.int .i64 L') ∧ wr.drew.cell? ⟨g, 5, none⟩ = some (.int .i64 K') ∧ wr.drew.cell? ⟨g, 6, none⟩ = some (.int .i64 T') ∧ wr.drew.cell? ⟨g, 7, none⟩ = some (.int .i64 E') ∧ wr.drew.cell? ⟨bl, ol + k * 2, none⟩ = some (.int .i64 xx) ∧ wr.drew.cell? ⟨bl, ol + k * 2 + 1, none⟩ = some (.int .i64 yy) := ⟨box_cell HDd.2.2.1 0, box_cell HDd.2.2.1 1, box_cell HDd.2.2.1 2, box_cell HDd.2.2.1 3, box_cell HDd.2.2.1 4, box_cell HDd.2.2.1 5, box_cell HDd.2.2.1 6, box_cell HDd.2.2.1 7, hxx, hyy⟩
          have hce : (wr.alloc (.cells #[.int .i64 0, .slice none 0 0, .int .i64 0, .slice none 0 0, .int .i64 0, .int .i64 0, .int .i64 0, .int .i64 0] 25)).drew.cell? ⟨g, 0, none⟩ = some (.int .i64 M') ∧ (wr.alloc (.cells #[.int .i64 0, .slice none 0 0, .int .i64 0, .slice none 0 0, .int .i64 0, .int .i64 0, .int .i64 0, .int .i64 0] 25)).drew.cell? ⟨g, 1, none⟩ = some (.slice B1 m1 d1) ∧ (wr.alloc (.cells #[.int .i64 0, .slice none 0 0, .int .i64 0, .slice none 0 0, .int .i64 0, .int .i64 0, .int .i64 0, .int .i64 0] 25)).drew.cell? ⟨g, 2, none⟩ = some (.int .i64 S') ∧ (wr.alloc (.cells #[.int .i64 0, .slice none 0 0, .int .i64 0, .slice none 0 0, .int .i64 0, .int .i64 0, .int .i64 0, .int .i64 0] 25)).drew.cell? ⟨g, 3, none⟩ = some (.slice B3 m3 d3) ∧ (wr.alloc (.cells #[.int .i64 0, .slice none 0 0, .int .i64 0, .slice none 0 0, .int .i64 0, .int .i64 0, .int .i64 0, .int .i64 0] 25)).drew.cell? ⟨g, 4, none⟩ = some (.int .i64 L') ∧ (wr.alloc (.cells #[.int .i64 0, .slice none 0 0, .int .i64 0, .slice none 0 0, .int .i64 0, .int .i64 0, .int .i64 0, .int .i64 0] 25)).drew.cell? ⟨g, 5, none⟩ = some (.int .i64 K') ∧ (wr.alloc (.cells #[.int .i64 0, .slice none 0 0, .int .i64 0, .slice none 0 0, .int .i64 0, .int .i64 0, .int .i64 0, .int .i64 0] 25)).drew.cell? ⟨g, 6, none⟩ = some (.int .i64 T') ∧ (wr.alloc (.cells #[.int .i64 0, .slice none 0 0, .int .i64 0, .slice none 0 0, .int .i64 0, .int .i64 0, .int .i64 0, .int .i64 0] 25)).drew.cell? ⟨g, 7, none⟩ = some (.int .i64 E') ∧ (wr.alloc (.cells #[.int .i64 0, .slice none 0 0, .int .i64 0, .slice none 0 0, .int .i64 0, .int .i64 0, .int .i64 0, .int .i64 0] 25)).drew.cell? ⟨bl, ol + k * 2, none⟩ = some (.int .i64 xx) ∧ (wr.alloc (.cells #[.int .i64 0, .slice none 0 0, .int .i64 0, .slice none 0 0, .int .i64 0, .int .i64 0, .int .i64 0, .int .i64 0] 25)).drew.cell? ⟨bl, ol + k * 2 + 1, none⟩ = some (.int .i64 yy) := ⟨box_cell HDe.2.2.1 0, box_cell HDe.2.2.1 1, box_cell HDe.2.2.1 2, box_cell HDe.2.2.1 3, box_cell HDe.2.2.1 4, box_cell HDe.2.2.1 5, box_cell HDe.2.2.1 6, box_cell HDe.2.2.1 7, keepA2 hxx (.cells #[.int .i64 0, .slice none 0 0, .int .i64 0, .slice none 0 0, .int .i64 0, .int .i64 0, .int .i64 0, .int .i64 0] 25), keepA2 hyy (.cells #[.int .i64 0, .slice none 0 0, .int .i64 0, .slice none 0 0, .int .i64 0, .int .i64 0, .int .i64 0, .int .i64 0] 25)⟩
          have hq1 : G'.length = m1 := by have hq := HD.2.2.2.1.out.1; rwa [ints_length] at hq
          have hq3 : Q'.length = m3 := by have hq := HD.2.2.2.2.1.out.1; rwa [ints_length] at hq
          have hb12 := HD.2.2.2.2.2.2.2.2.2
          have HC1 := Lib.hid (doC M' B1 m1 d1 G' S' B3 m3 d3 Q' L' K' T' E' xx yy wr.drew hq1 (by omega) HDd.2.2.2.1.out.rd hq3 (by omega) HDd.2.2.2.2.1.out.rd HDd.2.2.2.1.out.nil HDd.2.2.2.2.1.out.nil)
          have HC2 := Lib.hid (doC M' B1 m1 d1 G' S' B3 m3 d3 Q' L' K' T' E' xx yy (wr.alloc (.cells #[.int .i64 0, .slice none 0 0, .int .i64 0, .slice none 0 0, .int .i64 0, .int .i64 0, .int .i64 0, .int .i64 0] 25)).drew hq1 (by omega) HDe.2.2.2.1.out.rd hq3 (by omega) HDe.2.2.2.2.1.out.rd HDe.2.2.2.1.out.nil HDe.2.2.2.2.1.out.nil)
          have HXe : Hid ((wr.alloc (.cells #[.int .i64 0, .slice none 0 0, .int .i64 0, .slice none 0 0, .int .i64 0, .int .i64 0, .int .i64 0, .int .i64 0] 25)).drew.heap[wr.heap.size]? = some (.cells #[.int .i64 0, .slice none 0 0, .int .i64 0, .slice none 0 0, .int .i64 0, .int .i64 0, .int .i64 0, .int .i64 0] 25 (0, 0))) := new_box wr (.cells #[.int .i64 0, .slice none 0 0, .int .i64 0, .slice none 0 0, .int .i64 0, .int .i64 0, .int .i64 0, .int .i64 0] 25)
          clear hq1 hq3 hb12
          have hg0 := HD.1
          have hB1 : Hid (∀ a, B1 = some a → a.block ≠ wr.heap.size) := fun a e => by have := (HD.2.2.2.1.out.ge a e).2; omega
          have hB3 : Hid (∀ a, B3 = some a → a.block ≠ wr.heap.size) := fun a e => by have := (HD.2.2.2.2.1.out.ge a e).2; omega
          have hWA : wr.heap.size + 1 ≤ (wr.alloc (.cells #[.int .i64 0, .slice none 0 0, .int .i64 0, .slice none 0 0, .int .i64 0, .int .i64 0, .int .i64 0, .int .i64 0] 25)).drew.heap.size := by show _ ≤ (wr.alloc (.cells #[.int .i64 0, .slice none 0 0, .int .i64 0, .slice none 0 0, .int .i64 0, .int .i64 0, .int .i64 0, .int .i64 0] 25)).heap.size; simp
          have hWD : wr.heap.size ≤ wr.drew.heap.size := Nat.le_refl _
          clear HD
          go_region_held3 (fun W => W.cell? ⟨g, 0, none⟩ = some (.int .i64 M') ∧ W.cell? ⟨g, 1, none⟩ = some (.slice B1 m1 d1) ∧ W.cell? ⟨g, 2, none⟩ = some (.int .i64 S') ∧ W.cell? ⟨g, 3, none⟩ = some (.slice B3 m3 d3) ∧ W.cell? ⟨g, 4, none⟩ = some (.int .i64 L') ∧ W.cell? ⟨g, 5, none⟩ = some (.int .i64 K') ∧ W.cell? ⟨g, 6, none⟩ = some (.int .i64 T') ∧ W.cell? ⟨g, 7, none⟩ = some (.int .i64 E') ∧ W.cell? ⟨bl, ol + k * 2, none⟩ = some (.int .i64 xx) ∧ W.cell? ⟨bl, ol + k * 2 + 1, none⟩ = some (.int .i64 yy)) (first | (with_reducible exact hcd) | (with_reducible exact hce) | (with_reducible exact cT) | (with_reducible exact ⟨keepA2 cT.1 _, keepA2 cT.2.1 _, keepA2 cT.2.2.1 _, keepA2 cT.2.2.2.1 _, keepA2 cT.2.2.2.2.1 _, keepA2 cT.2.2.2.2.2.1 _, keepA2 cT.2.2.2.2.2.2.1 _, keepA2 cT.2.2.2.2.2.2.2.1 _, keepA2 cT.2.2.2.2.2.2.2.2.1 _, keepA2 cT.2.2.2.2.2.2.2.2.2 _⟩) | (with_reducible exact ⟨farK8 cT.1 (by omega) _ _ _ _ _ _ _ _, farK8 cT.2.1 (by omega) _ _ _ _ _ _ _ _, farK8 cT.2.2.1 (by omega) _ _ _ _ _ _ _ _, farK8 cT.2.2.2.1 (by omega) _ _ _ _ _ _ _ _, farK8 cT.2.2.2.2.1 (by omega) _ _ _ _ _ _ _ _, farK8 cT.2.2.2.2.2.1 (by omega) _ _ _ _ _ _ _ _, farK8 cT.2.2.2.2.2.2.1 (by omega) _ _ _ _ _ _ _ _, farK8 cT.2.2.2.2.2.2.2.1 (by omega) _ _ _ _ _ _ _ _, farK8 cT.2.2.2.2.2.2.2.2.1 (by omega) _ _ _ _ _ _ _ _, farK8 cT.2.2.2.2.2.2.2.2.2 (by omega) _ _ _ _ _ _ _ _⟩) | go_keep) (first | (go_at_call 37; refine Calls.mono (by with_reducible exact HC2.out) ?_; rintro e v ⟨vv, bb, rfl, ⟨M2, C1, k1, e1, G2, S2, C3, k3, e3, Q2, L2, K2, T2, E2, rfl, hk1, hk3, ho1, ho3, hap⟩, hbv⟩; have HRv := HDe.below hbv; have cT : v.cell? ⟨g, 0, none⟩ = some (.int .i64 M') ∧ v.cell? ⟨g, 1, none⟩ = some (.slice B1 m1 d1) ∧ v.cell? ⟨g, 2, none⟩ = some (.int .i64 S') ∧ v.cell? ⟨g, 3, none⟩ = some (.slice B3 m3 d3) ∧ v.cell? ⟨g, 4, none⟩ = some (.int .i64 L') ∧ v.cell? ⟨g, 5, none⟩ = some (.int .i64 K') ∧ v.cell? ⟨g, 6, none⟩ = some (.int .i64 T') ∧ v.cell? ⟨g, 7, none⟩ = some (.int .i64 E') ∧ v.cell? ⟨bl, ol + k * 2, none⟩ = some (.int .i64 xx) ∧ v.cell? ⟨bl, ol + k * 2 + 1, none⟩ = some (.int .i64 yy) := ⟨box_cell HRv.2.2.1 0, box_cell HRv.2.2.1 1, box_cell HRv.2.2.1 2, box_cell HRv.2.2.1 3, box_cell HRv.2.2.1 4, box_cell HRv.2.2.1 5, box_cell HRv.2.2.1 6, box_cell HRv.2.2.1 7, keepC hce.2.2.2.2.2.2.2.2.1 hbv, keepC hce.2.2.2.2.2.2.2.2.2 hbv⟩; have hn1 := Lib.hid (fun b (e : C1 = some b) => show b.block ≠ g by have := (ho1.ge b e).1; omega); have hn3 := Lib.hid (fun b (e : C3 = some b) => show b.block ≠ g by have := (ho3.ge b e).1; omega); have HAPq := Lib.hid hap; have BY := be_box HXe hbv; have bx0 := box_cell BY 0; have by0 := box_free BY 0; simp at bx0; have bx1 := box_cell BY 1; have by1 := box_free BY 1; simp at bx1; have bx2 := box_cell BY 2; have by2 := box_free BY 2; simp at bx2; have bx3 := box_cell BY 3; have by3 := box_free BY 3; simp at bx3; have bx4 := box_cell BY 4; have by4 := box_free BY 4; simp at bx4; have bx5 := box_cell BY 5; have by5 := box_free BY 5; simp at bx5; have bx6 := box_cell BY 6; have by6 := box_free BY 6; simp at bx6; have bx7 := box_cell BY 7; have by7 := box_free BY 7; simp at bx7; have HRq := Lib.hid (HRv.far8 (q := wr.heap.size) (by omega) (by omega) hB1.out hB3.out (.int .i64 M2) (.slice C1 k1 e1) (.int .i64 S2) (.slice C3 k3 e3) (.int .i64 L2) (.int .i64 K2) (.int .i64 T2) (.int .i64 E2)); have HBq := set8_cells BY (.int .i64 M2) (.slice C1 k1 e1) (.int .i64 S2) (.slice C3 k3 e3) (.int .i64 L2) (.int .i64 K2) (.int .i64 T2) (.int .i64 E2); have Ho1q := Lib.hid (off8 (g := wr.heap.size) (ho1.mono (show w.heap.size + 2 ≤ _ by omega)) (fun b e => by have := (ho1.ge b e).1; omega) (.int .i64 M2) (.slice C1 k1 e1) (.int .i64 S2) (.slice C3 k3 e3) (.int .i64 L2) (.int .i64 K2) (.int .i64 T2) (.int .i64 E2)); have Ho3q := Lib.hid (off8 (g := wr.heap.size) (ho3.mono (show w.heap.size + 2 ≤ _ by omega)) (fun b e => by have := (ho3.ge b e).1; omega) (.int .i64 M2) (.slice C1 k1 e1) (.int .i64 S2) (.slice C3 k3 e3) (.int .i64 L2) (.int .i64 K2) (.int .i64 T2) (.int .i64 E2)); clear BY; clear hbv ho1 ho3 hap HRv HC1 HC2 HDd HDe HXe) | (go_at_call 37; refine Calls.mono (by with_reducible exact HC1.out) ?_; rintro e v ⟨vv, bb, rfl, ⟨M2, C1, k1, e1, G2, S2, C3, k3, e3, Q2, L2, K2, T2, E2, rfl, hk1, hk3, ho1, ho3, hap⟩, hbv⟩; have HRv := HDd.below hbv; have cT : v.cell? ⟨g, 0, none⟩ = some (.int .i64 M') ∧ v.cell? ⟨g, 1, none⟩ = some (.slice B1 m1 d1) ∧ v.cell? ⟨g, 2, none⟩ = some (.int .i64 S') ∧ v.cell? ⟨g, 3, none⟩ = some (.slice B3 m3 d3) ∧ v.cell? ⟨g, 4, none⟩ = some (.int .i64 L') ∧ v.cell? ⟨g, 5, none⟩ = some (.int .i64 K') ∧ v.cell? ⟨g, 6, none⟩ = some (.int .i64 T') ∧ v.cell? ⟨g, 7, none⟩ = some (.int .i64 E') ∧ v.cell? ⟨bl, ol + k * 2, none⟩ = some (.int .i64 xx) ∧ v.cell? ⟨bl, ol + k * 2 + 1, none⟩ = some (.int .i64 yy) := ⟨box_cell HRv.2.2.1 0, box_cell HRv.2.2.1 1, box_cell HRv.2.2.1 2, box_cell HRv.2.2.1 3, box_cell HRv.2.2.1 4, box_cell HRv.2.2.1 5, box_cell HRv.2.2.1 6, box_cell HRv.2.2.1 7, keepC hcd.2.2.2.2.2.2.2.2.1 hbv, keepC hcd.2.2.2.2.2.2.2.2.2 hbv⟩; have hn1 := Lib.hid (fun b (e : C1 = some b) => show b.block ≠ g by have := (ho1.ge b e).1; omega); have hn3 := Lib.hid (fun b (e : C3 = some b) => show b.block ≠ g by have := (ho3.ge b e).1; omega); have HAPq := Lib.hid hap; have HRq := Lib.hid (HRv.al (.cells #[.int .i64 M2, .slice C1 k1 e1, .int .i64 S2, .slice C3 k3 e3, .int .i64 L2, .int .i64 K2, .int .i64 T2, .int .i64 E2] 25)); have HBq := new_box v (.cells #[.int .i64 M2, .slice C1 k1 e1, .int .i64 S2, .slice C3 k3 e3, .int .i64 L2, .int .i64 K2, .int .i64 T2, .int .i64 E2] 25); have Ho1q := Lib.hid ((ho1.alloc (.cells #[.int .i64 M2, .slice C1 k1 e1, .int .i64 S2, .slice C3 k3 e3, .int .i64 L2, .int .i64 K2, .int .i64 T2, .int .i64 E2] 25)).mono (show w.heap.size + 2 ≤ _ by omega)); have Ho3q := Lib.hid ((ho3.alloc (.cells #[.int .i64 M2, .slice C1 k1 e1, .int .i64 S2, .slice C3 k3 e3, .int .i64 L2, .int .i64 K2, .int .i64 T2, .int .i64 E2] 25)).mono (show w.heap.size + 2 ≤ _ by omega)); clear hbv ho1 ho3 hap HRv HC1 HC2 HDd HDe HXe))
          all_goals
            go_wp2_with fail
            go_meet
            case rel => with_reducible exact ⟨_, _, _, _, _, _, _, _, _, _, _, _, _, _, _, _, rfl, rfl, HRq, HBq, Ho1q, Ho3q, HAPq, hn1, hn3, hk1, hk3⟩
        case rest =>
          obtain ⟨q, M2, C1, k1, e1, G2, S2, C3, k3, e3, Q2, L2, K2, T2, E2, b, rfl, rfl, HR, HX, ho1, ho3, hap, hn1, hn3, hk1, hk3⟩ := hcut
          clear HD hxx hyy
          have HN := Lib.hid (RunS.all HR.out ho1.out ho3.out hap.out hn1.out hn3.out hk1 hk3 (M2 := M2) (S2 := S2) (L2 := L2) (K2 := K2) (T2 := T2) (E2 := E2))
          clear ho1 ho3 hap hn1 hn3 hk1 hk3
          cases b with
          | false =>
            clear HN HX
            go_wp2_with fail
            go_roundg (ml - (k + 1))
            case measure => omega
            case rel => exact ⟨k + 1, _, M', B1, m1, d1, G', S', B3, m3, d3, Q', L', K', T', E', rfl, by go_num, by omega, Nat.le_refl _, HR⟩
          | true =>
            have c_x_0 : wc.cell? ⟨q, 0, none⟩ = some (.int .i64 M2) := box_cell HX 0
            have c_x_1 : wc.cell? ⟨q, 1, none⟩ = some (.slice C1 k1 e1) := box_cell HX 1
            have c_x_2 : wc.cell? ⟨q, 2, none⟩ = some (.int .i64 S2) := box_cell HX 2
            have c_x_3 : wc.cell? ⟨q, 3, none⟩ = some (.slice C3 k3 e3) := box_cell HX 3
            have c_x_4 : wc.cell? ⟨q, 4, none⟩ = some (.int .i64 L2) := box_cell HX 4
            have c_x_5 : wc.cell? ⟨q, 5, none⟩ = some (.int .i64 K2) := box_cell HX 5
            have c_x_6 : wc.cell? ⟨q, 6, none⟩ = some (.int .i64 T2) := box_cell HX 6
            have c_x_7 : wc.cell? ⟨q, 7, none⟩ = some (.int .i64 E2) := box_cell HX 7
            have k_o_0 : wc.cell? ⟨g, 0, none⟩ = some (.int .i64 M') := box_cell HR.out.2.2.1 0; have y_o_0 : wc.frozen? ⟨g, 0, none⟩ = false := box_free HR.out.2.2.1 0
            have k_o_1 : wc.cell? ⟨g, 1, none⟩ = some (.slice B1 m1 d1) := box_cell HR.out.2.2.1 1; have y_o_1 : wc.frozen? ⟨g, 1, none⟩ = false := box_free HR.out.2.2.1 1
            have k_o_2 : wc.cell? ⟨g, 2, none⟩ = some (.int .i64 S') := box_cell HR.out.2.2.1 2; have y_o_2 : wc.frozen? ⟨g, 2, none⟩ = false := box_free HR.out.2.2.1 2
            have k_o_3 : wc.cell? ⟨g, 3, none⟩ = some (.slice B3 m3 d3) := box_cell HR.out.2.2.1 3; have y_o_3 : wc.frozen? ⟨g, 3, none⟩ = false := box_free HR.out.2.2.1 3
            have k_o_4 : wc.cell? ⟨g, 4, none⟩ = some (.int .i64 L') := box_cell HR.out.2.2.1 4; have y_o_4 : wc.frozen? ⟨g, 4, none⟩ = false := box_free HR.out.2.2.1 4
            have k_o_5 : wc.cell? ⟨g, 5, none⟩ = some (.int .i64 K') := box_cell HR.out.2.2.1 5; have y_o_5 : wc.frozen? ⟨g, 5, none⟩ = false := box_free HR.out.2.2.1 5
            have k_o_6 : wc.cell? ⟨g, 6, none⟩ = some (.int .i64 T') := box_cell HR.out.2.2.1 6; have y_o_6 : wc.frozen? ⟨g, 6, none⟩ = false := box_free HR.out.2.2.1 6
            have k_o_7 : wc.cell? ⟨g, 7, none⟩ = some (.int .i64 E') := box_cell HR.out.2.2.1 7; have y_o_7 : wc.frozen? ⟨g, 7, none⟩ = false := box_free HR.out.2.2.1 7
            clear HR HX
            go_wp2_with fail
            go_roundg (ml - (k + 1))
            case measure => omega
            case rel => exact ⟨k + 1, _, M2, C1, k1, e1, G2, S2, C3, k3, e3, Q2, L2, K2, T2, E2, rfl, by go_num, by omega, Nat.le_refl _, HN⟩
      · skip
        have hltz : ¬ (k : Int) < (ml : Int) := by omega
        have HR : Hid (wr.heap[(w.heap.size + 1)]? = some (.cells #[.int .i64 0, .slice none 0 0, .int .i64 0, .slice none 0 0, .int .i64 0, .int .i64 0, .int .i64 0, .int .i64 0] 25 (0, 0))) := HD.out.2.1
        have c_o_0 : wr.cell? ⟨g, 0, none⟩ = some (.int .i64 M') := box_cell HD.out.2.2.1 0
        have c_o_1 : wr.cell? ⟨g, 1, none⟩ = some (.slice B1 m1 d1) := box_cell HD.out.2.2.1 1
        have c_o_2 : wr.cell? ⟨g, 2, none⟩ = some (.int .i64 S') := box_cell HD.out.2.2.1 2
        have c_o_3 : wr.cell? ⟨g, 3, none⟩ = some (.slice B3 m3 d3) := box_cell HD.out.2.2.1 3
        have c_o_4 : wr.cell? ⟨g, 4, none⟩ = some (.int .i64 L') := box_cell HD.out.2.2.1 4
        have c_o_5 : wr.cell? ⟨g, 5, none⟩ = some (.int .i64 K') := box_cell HD.out.2.2.1 5
        have c_o_6 : wr.cell? ⟨g, 6, none⟩ = some (.int .i64 T') := box_cell HD.out.2.2.1 6
        have c_o_7 : wr.cell? ⟨g, 7, none⟩ = some (.int .i64 E') := box_cell HD.out.2.2.1 7
        have k0 : wr.cell? ⟨(w.heap.size + 1), 0, none⟩ = some (.int .i64 0) := box_cell HR 0; have y0 : wr.frozen? ⟨(w.heap.size + 1), 0, none⟩ = false := box_free HR 0
        have k1 : wr.cell? ⟨(w.heap.size + 1), 1, none⟩ = some (.slice none 0 0) := box_cell HR 1; have y1 : wr.frozen? ⟨(w.heap.size + 1), 1, none⟩ = false := box_free HR 1
        have k2 : wr.cell? ⟨(w.heap.size + 1), 2, none⟩ = some (.int .i64 0) := box_cell HR 2; have y2 : wr.frozen? ⟨(w.heap.size + 1), 2, none⟩ = false := box_free HR 2
        have k3 : wr.cell? ⟨(w.heap.size + 1), 3, none⟩ = some (.slice none 0 0) := box_cell HR 3; have y3 : wr.frozen? ⟨(w.heap.size + 1), 3, none⟩ = false := box_free HR 3
        have k4 : wr.cell? ⟨(w.heap.size + 1), 4, none⟩ = some (.int .i64 0) := box_cell HR 4; have y4 : wr.frozen? ⟨(w.heap.size + 1), 4, none⟩ = false := box_free HR 4
        have k5 : wr.cell? ⟨(w.heap.size + 1), 5, none⟩ = some (.int .i64 0) := box_cell HR 5; have y5 : wr.frozen? ⟨(w.heap.size + 1), 5, none⟩ = false := box_free HR 5
        have k6 : wr.cell? ⟨(w.heap.size + 1), 6, none⟩ = some (.int .i64 0) := box_cell HR 6; have y6 : wr.frozen? ⟨(w.heap.size + 1), 6, none⟩ = false := box_free HR 6
        have k7 : wr.cell? ⟨(w.heap.size + 1), 7, none⟩ = some (.int .i64 0) := box_cell HR 7; have y7 : wr.frozen? ⟨(w.heap.size + 1), 7, none⟩ = false := box_free HR 7
        have HZ := set8_cells HR (.int .i64 M') (.slice B1 m1 d1) (.int .i64 S') (.slice B3 m3 d3) (.int .i64 L') (.int .i64 K') (.int .i64 T') (.int .i64 E')
        have z0 := box_cell HZ 0; simp at z0
        have z1 := box_cell HZ 1; simp at z1
        have z2 := box_cell HZ 2; simp at z2
        have z3 := box_cell HZ 3; simp at z3
        have z4 := box_cell HZ 4; simp at z4
        have z5 := box_cell HZ 5; simp at z5
        have z6 := box_cell HZ 6; simp at z6
        have z7 := box_cell HZ 7; simp at z7
        go_wp2_with fail
        exact bodyPost_ret (v := .tuple #[.agg #[.int .i64 M', .slice B1 m1 d1, .int .i64 S', .slice B3 m3 d3, .int .i64 L', .int .i64 K', .int .i64 T', .int .i64 E'], .int .i64 nn]) (by simp [results, Tryd.results24, go_sem, z0, z1, z2, z3, z4, z5, z6, z7]) rfl (retRun HD.out.2.2.2.1.out HD.out.2.2.2.2.1.out HD.out.2.2.2.2.2.1.out (Nat.le_refl _) HD.out.2.2.2.2.2.2.2.2.1.out HD.out.2.2.2.2.2.2.2.2.2.1 HD.out.2.2.2.2.2.2.2.2.2.2)
end Go.Proofs.YthekihggedgofaaDoor
