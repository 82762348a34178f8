/- Lists of frames in memory: records of address, body's slice and body. No statement is proved here. -/
import Derived.Test.YtddiloillgbneaaDoorFrmQ
namespace Go.Proofs.YtddiloillgbneaaDoor
open Go.RowKit

structure FR where
  a : Int
  A : Option Addr
  c : Nat
  l : List Int
namespace FR
def cells (r : FR) : List Value := [.int .i64 r.a, .slice r.A r.l.length r.c]
theorem cells_length (r : FR) : r.cells.length = 2 := rfl
def zero : FR := ⟨0, none, 0, []⟩
def val (r : FR) : Int × List Int := (r.a, r.l)
end FR
def vals (rs : List FR) : List (Int × List Int) := rs.map FR.val
theorem vals_length (rs : List FR) : (vals rs).length = rs.length := by simp [vals]
theorem vals_app (rs ss : List FR) : vals (rs ++ ss) = vals rs ++ vals ss := by simp [vals]
def flatF (rs : List FR) : List Value := rs.flatMap FR.cells
theorem flatF_length (rs : List FR) : (flatF rs).length = rs.length * 2 := flat_length _ _ FR.cells_length rs
theorem flatF_snoc (rs : List FR) (r : FR) : flatF (rs ++ [r]) = flatF rs ++ [.int .i64 r.a, .slice r.A r.l.length r.c] := by simp [flatF, FR.cells]

/-- bodies lie apart from each other -/
def Far (r s : FR) : Prop := ∀ a b, 0 < r.l.length → 0 < s.l.length → r.A = some a → s.A = some b → a.block ≠ b.block
theorem Far.symm {r s : FR} (h : Far r s) : Far s r := fun a b h0 h1 ha hb e => h b a h1 h0 hb ha e.symm
def Apart (rs : List FR) : Prop := rs.Pairwise Far
def RdF (w : World) (A : Option Addr) (rs : List FR) : Prop := Rd w A (flatF rs) ∧ ∀ r ∈ rs, Rd w r.A (ints r.l)
def OwnF (w : World) (base : Nat) (A : Option Addr) (rs : List FR) : Prop :=
  Own w base 25 2 A rs.length (flatF rs) ∧ (∀ r ∈ rs, Own w base 3 1 r.A r.l.length (ints r.l)) ∧ Apart rs

theorem OwnF.rd {w : World} {base : Nat} {A : Option Addr} {rs : List FR} (h : OwnF w base A rs) : RdF w A rs := ⟨h.1.rd, fun r hr => (h.2.1 r hr).rd⟩
theorem OwnF.below {w w' : World} {base : Nat} {A : Option Addr} {rs : List FR} (h : OwnF w base A rs) (hb : Below w.heap.size w w') : OwnF w' base A rs :=
  ⟨h.1.below hb, fun r hr => (h.2.1 r hr).below hb, h.2.2⟩
theorem OwnF.mono {w : World} {base base' : Nat} {A : Option Addr} {rs : List FR} (h : OwnF w base A rs) (hb : base' ≤ base) : OwnF w base' A rs :=
  ⟨h.1.mono hb, fun r hr => (h.2.1 r hr).mono hb, h.2.2⟩
theorem RdF.below {w w' : World} {A : Option Addr} {rs : List FR} (h : RdF w A rs) (hb : Below w.heap.size w w') : RdF w' A rs :=
  ⟨h.1.below hb, fun r hr => (h.2 r hr).below hb⟩
theorem OwnF.nil {w : World} {base : Nat} {A : Option Addr} : OwnF w base A [] := ⟨Own.nil, by simp, List.Pairwise.nil⟩

/-- the k-th frame of a slice -/
theorem RdF.at {w : World} {A : Option Addr} {rs : List FR} (h : RdF w A rs) {k : Nat} (hk : k < rs.length) :
    ∃ b o, A = some ⟨b, o, none⟩ ∧ b < w.heap.size ∧ w.cell? ⟨b, o + k * 2, none⟩ = some (.int .i64 (rs.getD k FR.zero).a) ∧ w.cell? ⟨b, o + k * 2 + 1, none⟩ = some (.slice (rs.getD k FR.zero).A (rs.getD k FR.zero).l.length (rs.getD k FR.zero).c) ∧ Hid (Rd w (rs.getD k FR.zero).A (ints (rs.getD k FR.zero).l)) := by
  obtain ⟨b, o, e, hlt, hc⟩ := h.1 (by rw [flatF_length]; omega)
  refine ⟨b, o, e, hlt, ?_, ?_, ?_⟩
  · have := hc (k * 2 + 0) _ ((flat_get FR.cells 2 FR.cells_length FR.zero rs k 0 hk (by omega)).trans rfl); simpa [Nat.add_assoc] using this
  · have := hc (k * 2 + 1) _ ((flat_get FR.cells 2 FR.cells_length FR.zero rs k 1 hk (by omega)).trans rfl); simpa [Nat.add_assoc] using this
  · refine h.2 _ ?_
    rw [List.getD_eq_getElem?_getD, List.getElem?_eq_getElem hk]
    exact List.getElem_mem hk

theorem info_Frame : (Tryd.prog.info? 25).map (fun i => (i.zero, i.size, i.bytes)) = some (some (.agg #[.int .i64 0, .slice none 0 0]), 2, 32) := by kernel_rfl

theorem blk_ltF {w : World} {g : Nat} {o : Obj} (h : w.heap[g]? = some o) : g < w.heap.size := by
  rcases Nat.lt_or_ge g w.heap.size with hlt | hge
  · exact hlt
  · rw [Array.getElem?_eq_none hge] at h; cases h
/- what is turned elsewhere is kept -/
theorem own_types {w : World} {b1 b2 : Nat} {E1 E2 : TypeId} {s1 s2 n1 n2 : Nat} {A1 A2 : Option Addr} {cs1 cs2 : List Value} (h1 : Own w b1 E1 s1 A1 n1 cs1) (h2 : Own w b2 E2 s2 A2 n2 cs2) (hE : E1 ≠ E2) :
    ∀ a b, 0 < n1 → 0 < n2 → A1 = some a → A2 = some b → a.block ≠ b.block := by
  intro a b hn1 hn2 e1 e2 e
  obtain ⟨g1, c1, f1, _, q1, _⟩ := h1.2 hn1
  obtain ⟨g2, c2, f2, _, q2, _⟩ := h2.2 hn2
  rw [e1] at f1; cases f1
  rw [e2] at f2; cases f2
  have e' : g1 = g2 := e
  subst e'
  rw [q1] at q2
  cases q2
  exact hE rfl
theorem turned_own {A A' : Option Addr} {n n' base : Nat} {w w' : World} {E : TypeId} {size : Nat} {cs : List Value} (h : Turned A n w w') (ho : Own w base E size A' n' cs) (hg : ∀ a b, 0 < n → 0 < n' → A = some a → A' = some b → a.block ≠ b.block) : Own w' base E size A' n' cs := by
  refine ⟨ho.1, fun hn => ?_⟩
  obtain ⟨g', cur, e, hge, hh, ht⟩ := ho.2 hn
  exact ⟨g', cur, e, hge, (h.block g' (fun a h0 ha => (hg a ⟨g', 0, none⟩ h0 hn ha e).symm)).trans hh, ht⟩
theorem set_own {A : Option Addr} {n base g j : Nat} {u : Value} {w : World} {E : TypeId} {size : Nat} {cs : List Value} (ho : Own w base E size A n cs) (hg : ∀ b, 0 < n → A = some b → b.block ≠ g) : Own (w.setCell ⟨g, j, none⟩ u) base E size A n cs := by
  refine ⟨ho.1, fun hn => ?_⟩
  obtain ⟨g', cur, e, hge, hh, ht⟩ := ho.2 hn
  exact ⟨g', cur, e, hge, (Below.heap_setCell w ⟨g, j, none⟩ u g' (hg ⟨g', 0, none⟩ hn e)).trans hh, ht⟩
theorem grown_own {n' base : Nat} {v : Value} {A : Option Addr} {w w' : World} {E : TypeId} {size : Nat} {cs : List Value} (h : w.grownBy w' v.ownBlock) (ho : Own w base E size A n' cs) (hg : ∀ b, 0 < n' → A = some b → v.ownBlock ≠ some b.block) : Own w' base E size A n' cs := by
  refine ⟨ho.1, fun hn => ?_⟩
  obtain ⟨g', cur, e, hge, hh, ht⟩ := ho.2 hn
  exact ⟨g', cur, e, hge, (h.block g' (blk_ltF hh) (fun e2 => hg ⟨g', 0, none⟩ hn e e2.symm)).trans hh, ht⟩

/-- a row of frames that the call owns -/
def RowF (w : World) (base : Nat) (A : Option Addr) (c : Nat) (rs : List FR) : Prop :=
  w.ownsRow base 25 2 (.slice A rs.length c) rs.length (flatF rs) ∧ (∀ r ∈ rs, Own w base 3 1 r.A r.l.length (ints r.l)) ∧ Apart rs
theorem RowF.own {w : World} {base c : Nat} {A : Option Addr} {rs : List FR} (h : RowF w base A c rs) : OwnF w base A rs := ⟨row_own h.1, h.2⟩
theorem row_types {w : World} {b1 b2 : Nat} {E1 E2 : TypeId} {s1 s2 n1 n2 c : Nat} {A1 A2 : Option Addr} {cs1 cs2 : List Value} (h : w.ownsRow b1 E1 s1 (.slice A1 n1 c) n1 cs1) (ho : Own w b2 E2 s2 A2 n2 cs2) (hE : E1 ≠ E2) :
    ∀ b, 0 < n2 → A2 = some b → (Value.slice A1 n1 c).ownBlock ≠ some b.block := by
  intro b hn e
  obtain ⟨g2, c2, f2, _, q2, _⟩ := ho.2 hn
  rw [e] at f2; cases f2
  rcases h.2 with ⟨e1, _⟩ | ⟨g, cap, cur, e1, _, q1, _⟩
  · cases e1; simp [Value.ownBlock]
  · cases e1
    simp only [Value.ownBlock, ne_eq, Option.some.injEq]
    intro e3
    have e4 : g = g2 := by simpa using e3
    subst e4
    rw [q1] at q2
    cases q2
    exact hE rfl
theorem snocF {wr w1 w2 : World} {base d : Nat} {B : Option Addr} {rs : List FR} {r : FR} {v' : Value} {o : Obj} (h : RowF wr base B d rs) (hbase : base ≤ wr.heap.size) (hb : Below wr.heap.size wr w1) (ho : Own w1 wr.heap.size 3 1 r.A r.l.length (ints r.l))
    (hown : w2.ownsRow base 25 2 v' (rs.length + 1) (flatF rs ++ [.int .i64 r.a, .slice r.A r.l.length r.c])) (hg : (w1.alloc o).grownBy w2 (Value.slice B rs.length d).ownBlock) :
    ∃ B' d', v' = .slice B' (rs ++ [r]).length d' ∧ RowF w2 base B' d' (rs ++ [r]) := by
  have hE : (25 : TypeId) ≠ 3 := by decide
  have hb2 : Below wr.heap.size wr (w1.alloc o) := allocB hb o
  have hrow : (w1.alloc o).ownsRow base 25 2 (.slice B rs.length d) rs.length (flatF rs) := row_below h.1 hb2
  have ho2 : Own (w1.alloc o) wr.heap.size 3 1 r.A r.l.length (ints r.l) := ho.below (allocB (Below.refl _ _) o)
  rw [← flatF_snoc] at hown
  obtain ⟨B', d', rfl, hr'⟩ := row_is (n' := (rs ++ [r]).length) (cs' := flatF (rs ++ [r])) hown (by simp) rfl
  refine ⟨B', d', rfl, hr', ?_, ?_⟩
  · intro x hx
    rcases List.mem_append.1 hx with hx | hx
    · have hx1 := (h.2.1 x hx).below hb2
      exact grown_own hg hx1 (row_types hrow hx1 hE)
    · rw [List.mem_singleton] at hx; subst hx
      exact grown_own hg (ho2.mono hbase) (row_types hrow ho2 hE)
  · refine List.pairwise_append.2 ⟨h.2.2, List.pairwise_singleton _ _, ?_⟩
    intro x hx y hy
    rw [List.mem_singleton] at hy; subst hy
    intro a b h0 h1 ha hb' e
    have l1 := (h.2.1 x hx).lt a h0 ha
    have l2 := ho.ge (Nat.le_refl _) b h1 hb'
    omega

/- marks -/
def markF : Int → List FR → List FR
  | _, [] => []
  | m, r :: rs => ⟨m, r.A, r.c, marks (m + 1) r.l.length⟩ :: markF (m + 1 + r.l.length) rs
def totF : List FR → Nat
  | [] => 0
  | r :: rs => 1 + r.l.length + totF rs
theorem markF_length : ∀ (m : Int) (rs : List FR), (markF m rs).length = rs.length
  | _, [] => rfl
  | m, r :: rs => by simp [markF, markF_length _ rs]
theorem totF_app : ∀ (rs ss : List FR), totF (rs ++ ss) = totF rs + totF ss
  | [], ss => by simp [totF]
  | r :: rs, ss => by simp [totF, totF_app rs ss]; omega
theorem markF_app : ∀ (m : Int) (rs ss : List FR), markF m (rs ++ ss) = markF m rs ++ markF (m + totF rs) ss
  | m, [], ss => by simp [markF, totF]
  | m, r :: rs, ss => by
    simp only [List.cons_append, markF, markF_app _ rs ss, totF]
    congr 3
    omega
theorem Far.len {r r' s s' : FR} (h : Far r s) (e1 : r'.A = r.A) (e2 : s'.A = s.A) (l1 : r'.l.length = r.l.length) (l2 : s'.l.length = s.l.length) : Far r' s' := by
  intro a b h0 h1 ha hb
  exact h a b (by omega) (by omega) (e1 ▸ ha) (e2 ▸ hb)
/-- the same slices -/
def likeF (rs ss : List FR) : Prop := rs.map (fun r => (r.A, r.c, r.l.length)) = ss.map (fun r => (r.A, r.c, r.l.length))
theorem markF_like : ∀ (m : Int) (rs : List FR), likeF (markF m rs) rs
  | _, [] => rfl
  | m, r :: rs => by
    have := markF_like (m + 1 + r.l.length) rs
    simp only [likeF] at this
    simp [likeF, markF, this, marks_length]
theorem likeF_apart : ∀ {rs ss : List FR}, likeF rs ss → Apart ss → Apart rs
  | [], _, _, _ => List.Pairwise.nil
  | r :: rs, [], h, _ => by simp [likeF] at h
  | r :: rs, s :: ss, h, hp => by
    simp only [likeF, List.map_cons, List.cons.injEq, Prod.mk.injEq] at h
    obtain ⟨h1, h2⟩ := List.pairwise_cons.1 hp
    refine List.pairwise_cons.2 ⟨fun x hx => ?_, likeF_apart (show likeF rs ss from h.2) h2⟩
    obtain ⟨y, hy, e⟩ : ∃ y ∈ ss, (y.A, y.c, y.l.length) = (x.A, x.c, x.l.length) := by
      have hm : (x.A, x.c, x.l.length) ∈ rs.map (fun r => (r.A, r.c, r.l.length)) := List.mem_map.2 ⟨x, hx, rfl⟩
      rw [h.2] at hm
      exact List.mem_map.1 hm
    simp only [Prod.mk.injEq] at e
    exact (h1 y hy).len h.1.1 e.1.symm h.1.2.2 e.2.2.symm
end Go.Proofs.YtddiloillgbneaaDoor
