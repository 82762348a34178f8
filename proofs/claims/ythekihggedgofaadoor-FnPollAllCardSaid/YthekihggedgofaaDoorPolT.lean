/- The contract of l20Poll: some poll is drawn. No statement is proved here. -/
import Derived.Test.YthekihggedgofaaDoorPolS
import Derived.Test.YthekihggedgofaaDoorPolN
namespace Go.Proofs.YthekihggedgofaaDoor
open Go.RowKit
/-- a poll is drawn -/
def DrPo (R f : Nat) (w : World) (e : Ending) (w' : World) : Prop :=
  ∃ (M' : Int) (B1 : Option Addr) (m1 d1 : Nat) (G' : List Int) (S' : Int) (B3 : Option Addr) (m3 d3 : Nat) (Q' : List Int) (L' K' T' E' : Int), e = .returned (.agg #[.int .i64 M', .slice B1 m1 d1, .int .i64 S', .slice B3 m3 d3, .int .i64 L', .int .i64 K', .int .i64 T', .int .i64 E']) ∧ m1 ≤ 13 ∧ m3 ≤ 13 ∧ Off w' (w.heap.size + 1) B1 m1 d1 (ints G') ∧ Off w' (w.heap.size + 1) B3 m3 d3 (ints Q') ∧ Rdr w' R f ∧ w.grownBy w' (some R)
/-- within l20Poll: the result's box (the first new block), the poll's box (block g) -/
def PoS (w : World) (R f g : Nat) (M' : Int) (B1 : Option Addr) (m1 d1 : Nat) (G' : List Int) (S' : Int) (B3 : Option Addr) (m3 d3 : Nat) (Q' : List Int) (L' K' T' E' : Int) (W : World) : Prop :=
  w.heap.size < g ∧ Hid (W.heap[w.heap.size]? = some (.cells #[.int .i64 0, .slice none 0 0, .int .i64 0, .slice none 0 0, .int .i64 0, .int .i64 0, .int .i64 0, .int .i64 0] 25 (0, 0))) ∧ Hid (W.heap[g]? = some (.cells #[.int .i64 M', .slice B1 m1 d1, .int .i64 S', .slice B3 m3 d3, .int .i64 L', .int .i64 K', .int .i64 T', .int .i64 E'] 25 (0, 0))) ∧ Hid (Off W (w.heap.size + 1) B1 m1 d1 (ints G')) ∧ Hid (Off W (w.heap.size + 1) B3 m3 d3 (ints Q')) ∧ Hid (Apt B1 B3) ∧ Hid (∀ b, B1 = some b → b.block ≠ g) ∧ Hid (∀ b, B3 = some b → b.block ≠ g) ∧ Hid (Rdr W R f) ∧ Hid (w.grownBy W (some R))
theorem PoS.mono {w W : World} {R f g : Nat} {M' : Int} {B1 : Option Addr} {m1 d1 : Nat} {G' : List Int} {S' : Int} {B3 : Option Addr} {m3 d3 : Nat} {Q' : List Int} {L' K' T' E' : Int} {f' : Nat} (h : PoS w R f g M' B1 m1 d1 G' S' B3 m3 d3 Q' L' K' T' E' W) (hf : f ≤ f') : PoS w R f' g M' B1 m1 d1 G' S' B3 m3 d3 Q' L' K' T' E' W := ⟨h.1, h.2.1, h.2.2.1, h.2.2.2.1, h.2.2.2.2.1, h.2.2.2.2.2.1, h.2.2.2.2.2.2.1, h.2.2.2.2.2.2.2.1, Lib.hid (h.2.2.2.2.2.2.2.2.1.out.mono hf), h.2.2.2.2.2.2.2.2.2⟩
theorem PoS.dr {w W : World} {R f g : Nat} {M' : Int} {B1 : Option Addr} {m1 d1 : Nat} {G' : List Int} {S' : Int} {B3 : Option Addr} {m3 d3 : Nat} {Q' : List Int} {L' K' T' E' : Int} {W' : World} {f' : Nat} (h : PoS w R f g M' B1 m1 d1 G' S' B3 m3 d3 Q' L' K' T' E' W) (hR : R < w.heap.size) (hr : Rdr W' R f') (hg : W.grownBy W' (some R)) : PoS w R f' g M' B1 m1 d1 G' S' B3 m3 d3 Q' L' K' T' E' W' := ⟨h.1, dr_box h.2.1 hg (by omega), dr_box h.2.2.1 hg (by have := h.1; omega), Lib.hid (h.2.2.2.1.out.dr hg (by omega)), Lib.hid (h.2.2.2.2.1.out.dr hg (by omega)), h.2.2.2.2.2.1, h.2.2.2.2.2.2.1, h.2.2.2.2.2.2.2.1, Lib.hid hr, Lib.hid (h.2.2.2.2.2.2.2.2.2.out.trans hg)⟩
theorem PoS.al {w W : World} {R f g : Nat} {M' : Int} {B1 : Option Addr} {m1 d1 : Nat} {G' : List Int} {S' : Int} {B3 : Option Addr} {m3 d3 : Nat} {Q' : List Int} {L' K' T' E' : Int} (h : PoS w R f g M' B1 m1 d1 G' S' B3 m3 d3 Q' L' K' T' E' W) (o : Obj) : PoS w R f g M' B1 m1 d1 G' S' B3 m3 d3 Q' L' K' T' E' (W.alloc o) := ⟨h.1, al_box h.2.1 o, al_box h.2.2.1 o, Lib.hid (h.2.2.2.1.out.alloc o), Lib.hid (h.2.2.2.2.1.out.alloc o), h.2.2.2.2.2.1, h.2.2.2.2.2.2.1, h.2.2.2.2.2.2.2.1, Lib.hid (rdr_alloc h.2.2.2.2.2.2.2.2.1.out o), Lib.hid (gr_alloc h.2.2.2.2.2.2.2.2.2.out o)⟩
theorem PoS.set0 {w W : World} {R f g : Nat} {M' : Int} {B1 : Option Addr} {m1 d1 : Nat} {G' : List Int} {S' : Int} {B3 : Option Addr} {m3 d3 : Nat} {Q' : List Int} {L' K' T' E' : Int} (h : PoS w R f g M' B1 m1 d1 G' S' B3 m3 d3 Q' L' K' T' E' W) (hR : R < w.heap.size) (v : Int) : PoS w R f g v B1 m1 d1 G' S' B3 m3 d3 Q' L' K' T' E' (W.setCell ⟨g, 0, none⟩ (.int .i64 v)) := ⟨h.1, st_box h.2.1 _ (by have := h.1; omega), st_same h.2.2.1 0 _, Lib.hid (h.2.2.2.1.out.setN (.inr h.2.2.2.2.2.2.1.out)), Lib.hid (h.2.2.2.2.1.out.setN (.inr h.2.2.2.2.2.2.2.1.out)), h.2.2.2.2.2.1, h.2.2.2.2.2.2.1, h.2.2.2.2.2.2.2.1, Lib.hid (rdr_set h.2.2.2.2.2.2.2.2.1.out 0 _ (by have := h.1; omega)), Lib.hid (gr_set h.2.2.2.2.2.2.2.2.2.out 0 _ (by have := h.1; omega))⟩
theorem PoS.set4 {w W : World} {R f g : Nat} {M' : Int} {B1 : Option Addr} {m1 d1 : Nat} {G' : List Int} {S' : Int} {B3 : Option Addr} {m3 d3 : Nat} {Q' : List Int} {L' K' T' E' : Int} (h : PoS w R f g M' B1 m1 d1 G' S' B3 m3 d3 Q' L' K' T' E' W) (hR : R < w.heap.size) (v : Int) : PoS w R f g M' B1 m1 d1 G' S' B3 m3 d3 Q' v K' T' E' (W.setCell ⟨g, 4, none⟩ (.int .i64 v)) := ⟨h.1, st_box h.2.1 _ (by have := h.1; omega), st_same h.2.2.1 4 _, Lib.hid (h.2.2.2.1.out.setN (.inr h.2.2.2.2.2.2.1.out)), Lib.hid (h.2.2.2.2.1.out.setN (.inr h.2.2.2.2.2.2.2.1.out)), h.2.2.2.2.2.1, h.2.2.2.2.2.2.1, h.2.2.2.2.2.2.2.1, Lib.hid (rdr_set h.2.2.2.2.2.2.2.2.1.out 4 _ (by have := h.1; omega)), Lib.hid (gr_set h.2.2.2.2.2.2.2.2.2.out 4 _ (by have := h.1; omega))⟩
theorem PoS.set6 {w W : World} {R f g : Nat} {M' : Int} {B1 : Option Addr} {m1 d1 : Nat} {G' : List Int} {S' : Int} {B3 : Option Addr} {m3 d3 : Nat} {Q' : List Int} {L' K' T' E' : Int} (h : PoS w R f g M' B1 m1 d1 G' S' B3 m3 d3 Q' L' K' T' E' W) (hR : R < w.heap.size) (v : Int) : PoS w R f g M' B1 m1 d1 G' S' B3 m3 d3 Q' L' K' v E' (W.setCell ⟨g, 6, none⟩ (.int .i64 v)) := ⟨h.1, st_box h.2.1 _ (by have := h.1; omega), st_same h.2.2.1 6 _, Lib.hid (h.2.2.2.1.out.setN (.inr h.2.2.2.2.2.2.1.out)), Lib.hid (h.2.2.2.2.1.out.setN (.inr h.2.2.2.2.2.2.2.1.out)), h.2.2.2.2.2.1, h.2.2.2.2.2.2.1, h.2.2.2.2.2.2.2.1, Lib.hid (rdr_set h.2.2.2.2.2.2.2.2.1.out 6 _ (by have := h.1; omega)), Lib.hid (gr_set h.2.2.2.2.2.2.2.2.2.out 6 _ (by have := h.1; omega))⟩
theorem PoS.set7 {w W : World} {R f g : Nat} {M' : Int} {B1 : Option Addr} {m1 d1 : Nat} {G' : List Int} {S' : Int} {B3 : Option Addr} {m3 d3 : Nat} {Q' : List Int} {L' K' T' E' : Int} (h : PoS w R f g M' B1 m1 d1 G' S' B3 m3 d3 Q' L' K' T' E' W) (hR : R < w.heap.size) (v : Int) : PoS w R f g M' B1 m1 d1 G' S' B3 m3 d3 Q' L' K' T' v (W.setCell ⟨g, 7, none⟩ (.int .i64 v)) := ⟨h.1, st_box h.2.1 _ (by have := h.1; omega), st_same h.2.2.1 7 _, Lib.hid (h.2.2.2.1.out.setN (.inr h.2.2.2.2.2.2.1.out)), Lib.hid (h.2.2.2.2.1.out.setN (.inr h.2.2.2.2.2.2.2.1.out)), h.2.2.2.2.2.1, h.2.2.2.2.2.2.1, h.2.2.2.2.2.2.2.1, Lib.hid (rdr_set h.2.2.2.2.2.2.2.2.1.out 7 _ (by have := h.1; omega)), Lib.hid (gr_set h.2.2.2.2.2.2.2.2.2.out 7 _ (by have := h.1; omega))⟩
theorem PoS.ne3 {w W : World} {R f g : Nat} {M' : Int} {B1 : Option Addr} {m1 d1 : Nat} {G' : List Int} {S' : Int} {B3 : Option Addr} {m3 d3 : Nat} {Q' : List Int} {L' K' T' E' : Int} (h : PoS w R f g M' B1 m1 d1 G' S' B3 m3 d3 Q' L' K' T' E' W) : (Value.slice B3 m3 d3).ownBlock ≠ some g := by
  cases B3 with
  | none => simp [Value.ownBlock]
  | some a => have := h.2.2.2.2.2.2.2.1.out a rfl; simpa [Value.ownBlock] using this
theorem PoS.q {w W : World} {R f g : Nat} {M' : Int} {B1 : Option Addr} {m1 d1 : Nat} {G' : List Int} {S' : Int} {B3 : Option Addr} {m3 d3 : Nat} {Q' : List Int} {L' K' T' E' : Int} {W' : World} {A' : Option Addr} {c' : Nat} {Q2 : List Int} (h : PoS w R f g M' B1 m1 d1 G' S' B3 m3 d3 Q' L' K' T' E' W) (hR : R < w.heap.size) (hg : W.grownBy W' (Value.slice B3 m3 d3).ownBlock) (ho : Off W' (w.heap.size + 1) A' (m3 + 1) c' (ints Q2)) (hp : ∀ b, A' = some b → (Value.slice B3 m3 d3).ownBlock = some b.block ∨ W.heap.size ≤ b.block) :
    PoS w R f g M' B1 m1 d1 G' S' A' (m3 + 1) c' Q2 L' K' T' E' (W'.setCell ⟨g, 3, none⟩ (.slice A' (m3 + 1) c')) := by
  obtain ⟨hg0, p1, p3, o1, o3, ha, n1', n3', hr, hb⟩ := h
  have own : ∀ k, (Value.slice B3 m3 d3).ownBlock = some k → w.heap.size + 1 ≤ k ∧ k ≠ g ∧ ∀ b, B1 = some b → b.block ≠ k := by
    intro k e
    cases B3 with
    | none => simp [Value.ownBlock] at e
    | some a =>
      simp [Value.ownBlock] at e
      subst e
      exact ⟨(o3.out.ge a rfl).1, n3'.out a rfl, fun b e => ha.out b a e rfl⟩
  have hgl := blk_inP p3.out
  have nn : ∀ b, A' = some b → b.block ≠ g := fun b e => by
    rcases hp b e with h1 | h1
    · exact (own _ h1).2.1
    · omega
  refine ⟨hg0, st_box (box_own p1 hg (fun e => by have := (own _ e).1; omega)) _ (by omega), st_same (box_own p3 hg (fun e => (own _ e).2.1 rfl)) 3 _, ?_, ?_, ?_, n1', Lib.hid nn, ?_, ?_⟩
  · exact Lib.hid ((o1.out.kept hg (fun a e e2 => (own _ e2).2.2 a e rfl)).setN (.inr n1'.out))
  · exact Lib.hid (ho.setN (.inr nn))
  · exact Lib.hid (fun a b e1 e3 => by
      rcases hp b e3 with h1 | h1
      · exact (own _ h1).2.2 a e1
      · have := (o1.out.ge a e1).2; omega)
  · exact Lib.hid (rdr_set (hr.out.kept hg (fun k e => by have := (own k e).1; omega)) 3 _ (by omega))
  · exact Lib.hid (gr_set (hb.out.andThen hg (fun k e => .inl (by have := (own k e).1; omega))) 3 _ (by omega))
theorem PoS.mk {w W : World} {R f g : Nat} {M' : Int} {B1 : Option Addr} {m1 d1 : Nat} {G' : List Int} {S' : Int} {B3 : Option Addr} {m3 d3 : Nat} {Q' : List Int} {L' K' T' E' : Int} {W' : World} {m c' : Nat} {G2 : List Int} (h : PoS w R f g M' B1 m1 d1 G' S' B3 m3 d3 Q' L' K' T' E' W) (hR : R < w.heap.size) (hg : W.grownBy W' none) (ho : Off W' W.heap.size (some ⟨W.heap.size, 0, none⟩) m c' (ints G2)) :
    PoS w R f g M' (some ⟨W.heap.size, 0, none⟩) m c' G2 S' B3 m3 d3 Q' L' K' T' E' (W'.setCell ⟨g, 1, none⟩ (.slice (some ⟨W.heap.size, 0, none⟩) m c')) := by
  obtain ⟨hg0, p1, p3, o1, o3, ha, n1', n3', hr, hb⟩ := h
  have hgl := blk_inP p3.out
  have nn : ∀ b, some (⟨W.heap.size, 0, none⟩ : Addr) = some b → b.block ≠ g := fun b e => by cases e; show W.heap.size ≠ g; omega
  refine ⟨hg0, st_box (box_own p1 hg (by simp)) _ (by omega), st_same (box_own p3 hg (by simp)) 1 _, ?_, ?_, ?_, Lib.hid nn, n3', ?_, ?_⟩
  · exact Lib.hid ((ho.setN (.inr nn)).mono (by omega))
  · exact Lib.hid ((o3.out.kept hg (fun a e e2 => by cases e2)).setN (.inr n3'.out))
  · exact Lib.hid (fun a b e1 e3 => by cases e1; have := (o3.out.ge b e3).2; show W.heap.size ≠ b.block; omega)
  · exact Lib.hid (rdr_set (hr.out.kept hg (fun k e => by cases e)) 1 _ (by omega))
  · exact Lib.hid (gr_set (hb.out.andThen hg (fun k e => by cases e)) 1 _ (by omega))
theorem rdr8 {R f g : Nat} {w : World} (h : Rdr w R f) (hg : R < g) (a b c d e f9 g9 h9 : Value) : Rdr ((((((((w.setCell ⟨g, 0, none⟩ (a)).setCell ⟨g, 1, none⟩ (b)).setCell ⟨g, 2, none⟩ (c)).setCell ⟨g, 3, none⟩ (d)).setCell ⟨g, 4, none⟩ (e)).setCell ⟨g, 5, none⟩ (f9)).setCell ⟨g, 6, none⟩ (g9)).setCell ⟨g, 7, none⟩ (h9)) R f := (rdr_set (rdr_set (rdr_set (rdr_set (rdr_set (rdr_set (rdr_set (rdr_set h 0 _ hg) 1 _ hg) 2 _ hg) 3 _ hg) 4 _ hg) 5 _ hg) 6 _ hg) 7 _ hg)
theorem gr8 {R g : Nat} {a0 w : World} (h : a0.grownBy w (some R)) (hg : a0.heap.size ≤ g) (a b c d e f9 g9 h9 : Value) : a0.grownBy ((((((((w.setCell ⟨g, 0, none⟩ (a)).setCell ⟨g, 1, none⟩ (b)).setCell ⟨g, 2, none⟩ (c)).setCell ⟨g, 3, none⟩ (d)).setCell ⟨g, 4, none⟩ (e)).setCell ⟨g, 5, none⟩ (f9)).setCell ⟨g, 6, none⟩ (g9)).setCell ⟨g, 7, none⟩ (h9)) (some R) := (gr_set (gr_set (gr_set (gr_set (gr_set (gr_set (gr_set (gr_set h 0 _ hg) 1 _ hg) 2 _ hg) 3 _ hg) 4 _ hg) 5 _ hg) 6 _ hg) 7 _ hg)
theorem poEnd {w W : World} {R f g : Nat} {M' : Int} {B1 : Option Addr} {m1 d1 : Nat} {G' : List Int} {S' : Int} {B3 : Option Addr} {m3 d3 : Nat} {Q' : List Int} {L' K' T' E' : Int} {f' : Nat} (h : PoS w R f g M' B1 m1 d1 G' S' B3 m3 d3 Q' L' K' T' E' W) (hf : f ≤ f') (hR : R < w.heap.size) (h1 : m1 ≤ 13) (h3 : m3 ≤ 13) :
    DrPo R f' w (.returned (.agg #[.int .i64 M', .slice B1 m1 d1, .int .i64 S', .slice B3 m3 d3, .int .i64 L', .int .i64 K', .int .i64 T', .int .i64 E'])) ((((((((W.setCell ⟨w.heap.size, 0, none⟩ (.int .i64 M')).setCell ⟨w.heap.size, 1, none⟩ (.slice B1 m1 d1)).setCell ⟨w.heap.size, 2, none⟩ (.int .i64 S')).setCell ⟨w.heap.size, 3, none⟩ (.slice B3 m3 d3)).setCell ⟨w.heap.size, 4, none⟩ (.int .i64 L')).setCell ⟨w.heap.size, 5, none⟩ (.int .i64 K')).setCell ⟨w.heap.size, 6, none⟩ (.int .i64 T')).setCell ⟨w.heap.size, 7, none⟩ (.int .i64 E')) :=
  ⟨M', B1, m1, d1, G', S', B3, m3, d3, Q', L', K', T', E', rfl, h1, h3, off8 h.2.2.2.1.out (fun a e => by have := (h.2.2.2.1.out.ge a e).1; omega) _ _ _ _ _ _ _ _, off8 h.2.2.2.2.1.out (fun a e => by have := (h.2.2.2.2.1.out.ge a e).1; omega) _ _ _ _ _ _ _ _, rdr8 (h.2.2.2.2.2.2.2.2.1.out.mono hf) hR _ _ _ _ _ _ _ _, gr8 h.2.2.2.2.2.2.2.2.2.out (Nat.le_refl _) _ _ _ _ _ _ _ _⟩
theorem litP {w : World} {g i : Nat} {a b : Int} {T : TypeId} (h : Hid (w.heap[g]? = some (.cells #[.int .i64 a, .int .i64 b] T (0, 0)))) (hi : i < 2) : ∃ v : Int, w.cell? ⟨g, i, none⟩ = some (.int .i64 v) := by
  rw [box_cell h]
  obtain rfl | rfl : i = 0 ∨ i = 1 := by omega
  all_goals exact ⟨_, rfl⟩
set_option maxRecDepth 100000 in
set_option maxHeartbeats 8000000 in
theorem drPoll (R f : Nat) (n : Int) (w : World) (hr : Rdr w R f) (hf : f ≤ 800000) (hn0 : 1 ≤ n) (hn : n ≤ 1000) :
    Calls Tryd.prog 14 #[.pointer (some ⟨R, 0, none⟩), .int .i64 n] w (DrPo R (f + 100) w) := by
  have HL : Hid (R < w.heap.size) := hr.lt
  have B0 : Hid ((w.alloc (.cells #[.int .i64 0, .slice none 0 0, .int .i64 0, .slice none 0 0, .int .i64 0, .int .i64 0, .int .i64 0, .int .i64 0] 25)).heap[w.heap.size]? = some (.cells #[.int .i64 0, .slice none 0 0, .int .i64 0, .slice none 0 0, .int .i64 0, .int .i64 0, .int .i64 0, .int .i64 0] 25 (0, 0))) := new_box w _
  have HR := Lib.hid (rdr_alloc hr (.cells #[.int .i64 0, .slice none 0 0, .int .i64 0, .slice none 0 0, .int .i64 0, .int .i64 0, .int .i64 0, .int .i64 0] 25))
  have HG := Lib.hid (gr_alloc (gr_refl w R) (.cells #[.int .i64 0, .slice none 0 0, .int .i64 0, .slice none 0 0, .int .i64 0, .int .i64 0, .int .i64 0, .int .i64 0] 25))
  obtain ⟨i0, hi0, hz0, hz1, hz2⟩ := info_parts info_int
  have HI := Lib.hid (And.intro hi0 (And.intro hz0 (And.intro hz1 hz2))); clear hi0 hz0 hz1 hz2 hr
  go_enter Tryd.func14, Tryd.ntmps14
  go_wp2_with fail
  refine (specPN _).mono ?_
  rintro e w1 ⟨rfl, hbn⟩
  replace B0 := be_box B0 hbn
  replace HR := Lib.hid (HR.out.below hbn)
  replace HG := Lib.hid (HG.out.trans (grown_of_below hbn))
  clear hbn
  go_wp2_with fail
  refine (deedsC R f w1 HR.out (by omega)).mono ?_
  rintro e w2 ⟨ds, B, c, rfl, hl, ho, hR, hg⟩
  have hRw := HL.out
  replace B0 := dr_box B0 hg (by omega)
  replace HR := Lib.hid hR
  replace HG := Lib.hid (HG.out.trans hg)
  have HRD := Lib.hid (rd_of_row ho)
  clear hR hg ho
  generalize hdl : ds.length = dl at *
  go_wp2_with fail
  refine (runC 0 none 0 0 [] 1 none 0 0 [] (-1) (-1) (-1) (-1) B dl c ds _ rfl (by omega) Rd.nil rfl (by omega) Rd.nil (fun _ => ⟨rfl, rfl⟩) (fun _ => ⟨rfl, rfl⟩) hdl (by omega) HRD.out).mono ?_
  rintro e w3 ⟨v, nn, rfl, ⟨M', B1, m1, d1, G', S', B3, m3, d3, Q', L', K', T', E', rfl, hk1, hk3, o1, o3, hap⟩, hbn⟩
  have hw2 := blk_lt B0.out
  replace B0 := be_box B0 hbn
  replace HR := Lib.hid (HR.out.below hbn)
  replace HG := Lib.hid (HG.out.trans (grown_of_below hbn))
  have hw3 := blk_lt B0.out
  have HP : PoS w R (f + 90) w3.heap.size M' B1 m1 d1 G' S' B3 m3 d3 Q' L' K' T' E' (w3.alloc (.cells #[.int .i64 M', .slice B1 m1 d1, .int .i64 S', .slice B3 m3 d3, .int .i64 L', .int .i64 K', .int .i64 T', .int .i64 E'] 25)) := ⟨hw3, al_box B0 _, new_box w3 _, Lib.hid ((o1.alloc _).mono (by omega)), Lib.hid ((o3.alloc _).mono (by omega)), Lib.hid hap, Lib.hid (fun b e => by have := (o1.ge b e).2; omega), Lib.hid (fun b e => by have := (o3.ge b e).2; omega), Lib.hid (rdr_alloc HR.out _), Lib.hid (gr_alloc HG.out _)⟩
  clear HR HG B0 o1 o3 hap hbn hw2 hw3 HRD hdl hl
  go_wp2_with fail
  refine (oddC R _ n _ HP.2.2.2.2.2.2.2.2.1.out (by omega) (by omega) (by omega)).mono ?_
  rintro e w4 ⟨bb, rfl, hR, hg⟩
  replace HP := HP.dr HL.out hR hg
  clear hR hg
  generalize w3.heap.size = g at *
  go_upto_if 16 with (fail)
  go_cut [] from 17 (fun wx => ∃ (M' : Int) (B1 : Option Addr) (m1 d1 : Nat) (G' : List Int) (S' : Int) (B3 : Option Addr) (m3 d3 : Nat) (Q' : List Int) (L' K' T' E' : Int), m1 ≤ 13 ∧ m3 ≤ 13 ∧ Hid (PoS w R (f + 95) g M' B1 m1 d1 G' S' B3 m3 d3 Q' L' K' T' E' wx))
  case first =>
    cases bb with
    | false =>
      go_wp2_with fail
      go_meet
      case rel => exact ⟨_, _, _, _, _, _, _, _, _, _, _, _, _, _, by omega, by omega, Lib.hid (HP.mono (by omega))⟩
    | true =>
      go_wp2_with fail
      refine (pickC R _ 5 _ HP.2.2.2.2.2.2.2.2.1.out (by omega) (by omega)).mono ?_
      rintro e w5 ⟨y, rfl, hy, hR, hg⟩
      replace HP := HP.dr HL.out hR hg
      clear hR hg
      have hgl := blk_lt HP.2.2.1.out
      have hg0 := HP.1
      obtain rfl | rfl | rfl | rfl | rfl : y = 0 ∨ y = 1 ∨ y = 2 ∨ y = 3 ∨ y = 4 := by omega
      · clear hy
        have k0 : w5.cell? ⟨g, 0, none⟩ = some (.int .i64 M') := box_cell HP.2.2.1 0; have y0 : w5.frozen? ⟨g, 0, none⟩ = false := box_free HP.2.2.1 0
        go_wp2_with fail
        go_meet
        case rel => exact ⟨_, _, _, _, _, _, _, _, _, _, _, _, _, _, by omega, by omega, Lib.hid ((HP.set0 HL.out 2).mono (by omega))⟩
      · clear hy
        have k6 : w5.cell? ⟨g, 6, none⟩ = some (.int .i64 T') := box_cell HP.2.2.1 6; have y6 : w5.frozen? ⟨g, 6, none⟩ = false := box_free HP.2.2.1 6
        have k7 : w5.cell? ⟨g, 7, none⟩ = some (.int .i64 E') := box_cell HP.2.2.1 7; have y7 : w5.frozen? ⟨g, 7, none⟩ = false := box_free HP.2.2.1 7
        go_wp2_with fail
        go_meet
        case rel => exact ⟨_, _, _, _, _, _, _, _, _, _, _, _, _, _, by omega, by omega, Lib.hid (((HP.set6 HL.out (-1)).set7 HL.out 3).mono (by omega))⟩
      · clear hy
        have c_o_3 : w5.cell? ⟨g, 3, none⟩ = some (.slice B3 m3 d3) := box_cell HP.2.2.1 3
        have HPL := Lib.hid (HP.al (.cells #[.int .i64 (-1)] 3))
        have hbz : w.heap.size + 1 ≤ (w5.alloc (.cells #[.int .i64 (-1)] 3)).heap.size := by have := blk_lt HPL.out.2.2.1.out; omega
        have hlit : (w5.alloc (.cells #[.int .i64 (-1)] 3)).cell? ⟨w5.heap.size, 0, none⟩ = some (.int .i64 (-1)) := box_cell (new_box w5 (.cells #[.int .i64 (-1)] 3)) 0
        have HOL := Lib.hid HPL.out.2.2.2.2.1.out
        go_wp2_with (at_builtin; refine wpList_appOff _ rfl _ _ _ rfl i0 (.int .i64 0) Tryd.underlying23 HI.out rfl (w.heap.size + 1) B3 m3 d3 (ints Q') rfl HOL.out w5.heap.size (.int .i64 (-1)) rfl hlit rfl (by omega) hbz ?_; intro A' c' wa hoff hg3 hap; have HPq := Lib.hid (PoS.q (Q2 := Q' ++ [-1]) HPL.out HL.out hg3 (by rw [ints_snoc]; exact hoff) hap); have K_o := box_own HPL.out.2.2.1 hg3 HPL.out.ne3; have q0 := box_cell K_o 3; have q1 := box_free K_o 3; simp at q0; clear hoff hg3 hap HOL K_o)
        go_meet
        case rel => exact ⟨_, _, _, _, _, _, _, _, _, _, _, _, _, _, by omega, by omega, Lib.hid (HPq.out.mono (by omega))⟩
      · clear hy
        have hc1 : w5.cell? ⟨g, 1, none⟩ = some (.slice B1 m1 d1) := box_cell HP.2.2.1 1
        go_wp2_with (at_make; refine wpList_make_full _ rfl _ _ _ rfl w5.heap.size 3 i0 (.int .i64 0) 1 Tryd.underlying23 HI.out.1 HI.out.2.1 HI.out.2.2.1 .i64 .i64 13 13 13 rfl rfl rfl rfl (by rw [HI.out.2.2.2]; omega) (by unfold maxLen; omega) (Nat.le_refl _) ?_; intro w6 hown6 hgr; have e13 : (madeCells (Value.int IntKind.i64 0).cells (13 * 1)).toList = ints (List.replicate 13 0) := (by kernel_rfl); rw [e13] at hown6; have HPm := Lib.hid (PoS.mk (G2 := List.replicate 13 0) HP HL.out hgr (off_row hown6)); have K_o := box_own HP.2.2.1 hgr (by simp); have q0 := box_cell K_o 1; have q1 := box_free K_o 1; simp at q0; clear hown6 hgr e13 K_o hc1)
        go_meet
        case rel => exact ⟨_, _, _, _, _, _, _, _, _, _, _, _, _, _, by omega, by omega, Lib.hid (HPm.out.mono (by omega))⟩
      · clear hy
        have HPa := HP.al (.cells #[.int .i64 (-2), .int .i64 1000] 3)
        have L0 := new_box w5 (.cells #[.int .i64 (-2), .int .i64 1000] 3)
        clear HP
        go_wp2_with fail
        refine (pickC R _ 2 _ HPa.2.2.2.2.2.2.2.2.1.out (by omega) (by omega)).mono ?_
        rintro e w6 ⟨y, rfl, hy, hR, hg⟩
        have hRw := HL.out
        replace HPa := HPa.dr HL.out hR hg
        have hy2 : (y : Int) < 2 := by omega
        obtain ⟨v, hv⟩ := litP (dr_box L0 hg (by omega)) (show y < 2 by omega)
        clear hR hg L0
        have k4 : w6.cell? ⟨g, 4, none⟩ = some (.int .i64 L') := box_cell HPa.2.2.1 4; have y4 : w6.frozen? ⟨g, 4, none⟩ = false := box_free HPa.2.2.1 4
        go_wp2_with fail
        go_meet
        case rel => exact ⟨_, _, _, _, _, _, _, _, _, _, _, _, _, _, by omega, by omega, Lib.hid ((HPa.set4 HL.out v).mono (by omega))⟩
  case rest =>
    obtain ⟨M', B1, m1, d1, G', S', B3, m3, d3, Q', L', K', T', E', hm1, hm3, HP⟩ := hcut
    replace HP := HP.out
    have c0 : wc.cell? ⟨g, 0, none⟩ = some (.int .i64 M') := box_cell HP.2.2.1 0; have k0 : wc.cell? ⟨w.heap.size, 0, none⟩ = some (.int .i64 0) := box_cell HP.2.1 0; have y0 : wc.frozen? ⟨w.heap.size, 0, none⟩ = false := box_free HP.2.1 0
    have c1 : wc.cell? ⟨g, 1, none⟩ = some (.slice B1 m1 d1) := box_cell HP.2.2.1 1; have k1 : wc.cell? ⟨w.heap.size, 1, none⟩ = some (.slice none 0 0) := box_cell HP.2.1 1; have y1 : wc.frozen? ⟨w.heap.size, 1, none⟩ = false := box_free HP.2.1 1
    have c2 : wc.cell? ⟨g, 2, none⟩ = some (.int .i64 S') := box_cell HP.2.2.1 2; have k2 : wc.cell? ⟨w.heap.size, 2, none⟩ = some (.int .i64 0) := box_cell HP.2.1 2; have y2 : wc.frozen? ⟨w.heap.size, 2, none⟩ = false := box_free HP.2.1 2
    have c3 : wc.cell? ⟨g, 3, none⟩ = some (.slice B3 m3 d3) := box_cell HP.2.2.1 3; have k3 : wc.cell? ⟨w.heap.size, 3, none⟩ = some (.slice none 0 0) := box_cell HP.2.1 3; have y3 : wc.frozen? ⟨w.heap.size, 3, none⟩ = false := box_free HP.2.1 3
    have c4 : wc.cell? ⟨g, 4, none⟩ = some (.int .i64 L') := box_cell HP.2.2.1 4; have k4 : wc.cell? ⟨w.heap.size, 4, none⟩ = some (.int .i64 0) := box_cell HP.2.1 4; have y4 : wc.frozen? ⟨w.heap.size, 4, none⟩ = false := box_free HP.2.1 4
    have c5 : wc.cell? ⟨g, 5, none⟩ = some (.int .i64 K') := box_cell HP.2.2.1 5; have k5 : wc.cell? ⟨w.heap.size, 5, none⟩ = some (.int .i64 0) := box_cell HP.2.1 5; have y5 : wc.frozen? ⟨w.heap.size, 5, none⟩ = false := box_free HP.2.1 5
    have c6 : wc.cell? ⟨g, 6, none⟩ = some (.int .i64 T') := box_cell HP.2.2.1 6; have k6 : wc.cell? ⟨w.heap.size, 6, none⟩ = some (.int .i64 0) := box_cell HP.2.1 6; have y6 : wc.frozen? ⟨w.heap.size, 6, none⟩ = false := box_free HP.2.1 6
    have c7 : wc.cell? ⟨g, 7, none⟩ = some (.int .i64 E') := box_cell HP.2.2.1 7; have k7 : wc.cell? ⟨w.heap.size, 7, none⟩ = some (.int .i64 0) := box_cell HP.2.1 7; have y7 : wc.frozen? ⟨w.heap.size, 7, none⟩ = false := box_free HP.2.1 7
    have HZ := set8_cells HP.2.1 (.int .i64 M') (.slice B1 m1 d1) (.int .i64 S') (.slice B3 m3 d3) (.int .i64 L') (.int .i64 K') (.int .i64 T') (.int .i64 E')
    have z0 := box_cell HZ 0; simp at z0
    have z1 := box_cell HZ 1; simp at z1
    have z2 := box_cell HZ 2; simp at z2
    have z3 := box_cell HZ 3; simp at z3
    have z4 := box_cell HZ 4; simp at z4
    have z5 := box_cell HZ 5; simp at z5
    have z6 := box_cell HZ 6; simp at z6
    have z7 := box_cell HZ 7; simp at z7
    go_wp2_with fail
    exact bodyPost_ret (v := .agg #[.int .i64 M', .slice B1 m1 d1, .int .i64 S', .slice B3 m3 d3, .int .i64 L', .int .i64 K', .int .i64 T', .int .i64 E']) (by simp [results, Tryd.results14, go_sem, z0, z1, z2, z3, z4, z5, z6, z7]) rfl (poEnd HP (by omega) HL.out hm1 hm3)
end Go.Proofs.YthekihggedgofaaDoor
