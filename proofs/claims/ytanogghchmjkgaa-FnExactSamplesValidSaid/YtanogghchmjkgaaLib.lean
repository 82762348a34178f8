/- Small lemmas and words for memory, used by all proofs of this seat: a slice that reads as a list, a slice that the call owns. No statement is proved here. -/
import Derived.WalkKit
import Derived.WalkLawsBesides
import Derived.WalkSpells
import Derived.Below
import Derived.Lib.Hide
import Derived.Laws.OwnMore
import Derived.Laws.Rows
import Derived.Deep.Draws
namespace Go.Proofs.Ytanogghchmjkgaa
open Go.RowKit

theorem ret_bool {a b : Bool} (h : a = b) : Ending.returned (.bool a) = .returned (.bool b) := by rw [h]
theorem ret_int {k : IntKind} {a b : Int} (h : a = b) : Ending.returned (.int k a) = .returned (.int k b) := by rw [h]
theorem below_drewN {B : Nat} {a w : World} (h : Below B a w) (n : Nat) : Below B a (w.drewN n) := ⟨h.os, h.tape, h.output, h.size, h.block⟩

theorem seqB {a b c : World} (h : Below a.heap.size a b) (k : Below b.heap.size b c) : Below a.heap.size a c := h.trans (k.mono h.size)
theorem drewB (w : World) (n : Nat) : Below w.heap.size w (w.drewN n) := below_drewN (Below.refl _ _) n

/-- ints as cells -/
def ints (xs : List Int) : List Value := xs.map (Value.int .i64)
theorem ints_length (xs : List Int) : (ints xs).length = xs.length := by simp [ints]

/-- A slice with address A reads the cells cs. -/
def Rd (w : World) (A : Option Addr) (cs : List Value) : Prop :=
  0 < cs.length → ∃ b o, A = some ⟨b, o, none⟩ ∧ b < w.heap.size ∧ ∀ k u, cs[k]? = some u → w.cell? ⟨b, o + k, none⟩ = some u

theorem Rd.below {w w' : World} {A : Option Addr} {cs : List Value} (h : Rd w A cs) (hb : Below w.heap.size w w') : Rd w' A cs := by
  intro h0
  obtain ⟨b, o, e, hlt, hc⟩ := h h0
  exact ⟨b, o, e, Nat.lt_of_lt_of_le hlt hb.size, fun k u hu => (hb.cell (p := ⟨b, o + k, none⟩) hlt).trans (hc k u hu)⟩
theorem Rd.nil {w : World} {A : Option Addr} : Rd w A [] := fun h => absurd h (by simp)
theorem Rd.drewN {w : World} {A : Option Addr} {cs : List Value} (h : Rd w A cs) (n : Nat) : Rd (w.drewN n) A cs := h

/-- the slice's k-th int -/
theorem Rd.int {w : World} {A : Option Addr} {xs : List Int} (h : Rd w A (ints xs)) {k : Nat} (hk : k < xs.length) :
    ∃ b o, A = some ⟨b, o, none⟩ ∧ b < w.heap.size ∧ w.cell? ⟨b, o + k, none⟩ = some (.int .i64 (xs.getD k 0)) := by
  obtain ⟨b, o, e, hlt, hc⟩ := h (by rw [ints_length]; omega)
  refine ⟨b, o, e, hlt, hc k _ ?_⟩
  simp [ints, hk]
theorem Rd.ints {w : World} {A : Option Addr} {xs : List Int} (h : Rd w A (ints xs)) (h0 : 0 < xs.length) :
    ∃ b o, A = some ⟨b, o, none⟩ ∧ b < w.heap.size ∧ ∀ k, k < xs.length → w.cell? ⟨b, o + k, none⟩ = some (.int .i64 (xs.getD k 0)) := by
  obtain ⟨b, o, e, hlt, hc⟩ := h (by rw [ints_length]; omega)
  refine ⟨b, o, e, hlt, fun k hk => hc k _ ?_⟩
  simp [Go.Proofs.Ytanogghchmjkgaa.ints, hk]

/-- A slice that the call owns: its block is from base on, not frozen; of an empty one nothing is said. -/
def Own (w : World) (base : Nat) (E : TypeId) (size : Nat) (A : Option Addr) (n : Nat) (cs : List Value) : Prop :=
  cs.length = n * size ∧ (0 < n → ∃ g cur, A = some ⟨g, 0, none⟩ ∧ base ≤ g ∧ w.heap[g]? = some (.cells cur E (0, 0)) ∧ cur.toList.take (n * size) = cs)

theorem Own.rd {w : World} {base : Nat} {E : TypeId} {size n : Nat} {A : Option Addr} {cs : List Value} (h : Own w base E size A n cs) : Rd w A cs := by
  intro h0
  have hn : 0 < n := by
    rcases Nat.eq_zero_or_pos n with e | e
    · have := h.1; subst e; omega
    · exact e
  obtain ⟨g, cur, e, _, hg, ht⟩ := h.2 hn
  have hlt : g < w.heap.size := by
    rcases Nat.lt_or_ge g w.heap.size with hlt | hge
    · exact hlt
    · rw [Array.getElem?_eq_none hge] at hg; cases hg
  refine ⟨g, 0, e, hlt, fun k u hu => ?_⟩
  rw [Nat.zero_add, cell_of_row w g k cur E (0, 0) hg]
  rw [← ht] at hu
  rw [List.getElem?_take] at hu
  split at hu
  · simpa using hu
  · cases hu

theorem Own.below {w w' : World} {base : Nat} {E : TypeId} {size n : Nat} {A : Option Addr} {cs : List Value} (h : Own w base E size A n cs) (hb : Below w.heap.size w w') : Own w' base E size A n cs := by
  refine ⟨h.1, fun hn => ?_⟩
  obtain ⟨g, cur, e, hge, hg, ht⟩ := h.2 hn
  have hlt : g < w.heap.size := by
    rcases Nat.lt_or_ge g w.heap.size with hlt | hge
    · exact hlt
    · rw [Array.getElem?_eq_none hge] at hg; cases hg
  exact ⟨g, cur, e, hge, (hb.block g hlt).trans hg, ht⟩
theorem Own.mono {w : World} {base base' : Nat} {E : TypeId} {size n : Nat} {A : Option Addr} {cs : List Value} (h : Own w base E size A n cs) (hb : base' ≤ base) : Own w base' E size A n cs := by
  refine ⟨h.1, fun hn => ?_⟩
  obtain ⟨g, cur, e, hge, hg, ht⟩ := h.2 hn
  exact ⟨g, cur, e, by omega, hg, ht⟩

theorem own_of_row {w : World} {base : Nat} {E : TypeId} {size n : Nat} {v : Value} {cs : List Value} (h : w.ownsRow base E size v n cs) :
    ∃ A c, v = .slice A n c ∧ Own w base E size A n cs := by
  rcases h.2 with ⟨rfl, rfl⟩ | ⟨g, cap, cur, rfl, hb, hg, hn, hm, hs, ht⟩
  · exact ⟨none, 0, rfl, h.1, fun h => absurd h (by omega)⟩
  · exact ⟨_, _, rfl, h.1, fun _ => ⟨g, cur, rfl, hb, hg, ht⟩⟩

theorem row_cell {w : World} {base : Nat} {E : TypeId} {size n cap g : Nat} {cs : List Value} (h : w.ownsRow base E size (.slice (some ⟨g, 0, none⟩) n cap) n cs) {j : Nat} (hj : j < n * size) :
    ∃ u, w.cell? ⟨g, j, none⟩ = some u := by
  refine ⟨cs[j]'(by rw [h.1]; exact hj), ?_⟩
  rw [h.cellAt j hj, List.getElem?_eq_getElem]
theorem Own.nil {w : World} {base : Nat} {E : TypeId} {size : Nat} {A : Option Addr} : Own w base E size A 0 [] := ⟨by simp, fun h => absurd h (by omega)⟩

theorem Own.form {w : World} {base : Nat} {E : TypeId} {size n : Nat} {A : Option Addr} {cs : List Value} (h : Own w base E size A n cs) (hn : 0 < n) : ∃ g, A = some ⟨g, 0, none⟩ ∧ base ≤ g ∧ g < w.heap.size := by
  obtain ⟨g, cur, e, hge, hg, _⟩ := h.2 hn
  refine ⟨g, e, hge, ?_⟩
  rcases Nat.lt_or_ge g w.heap.size with hlt | hge
  · exact hlt
  · rw [Array.getElem?_eq_none hge] at hg; cases hg
theorem Own.cell {w : World} {base : Nat} {E : TypeId} {size n g : Nat} {cs : List Value} (h : Own w base E size (some ⟨g, 0, none⟩) n cs) (hn : 0 < n) (j : Nat) (hj : j < n * size) : w.cell? ⟨g, j, none⟩ = cs[j]? := by
  obtain ⟨g', cur, e, hge, hg, ht⟩ := h.2 hn
  cases e
  rw [cell_of_row w g j cur E (0, 0) hg, ← ht, List.getElem?_take, if_pos hj]
  simp
theorem Own.has {w : World} {base : Nat} {E : TypeId} {size n g : Nat} {cs : List Value} (h : Own w base E size (some ⟨g, 0, none⟩) n cs) (hn : 0 < n) (j : Nat) (hj : j < n * size) : ∃ u, w.cell? ⟨g, j, none⟩ = some u := by
  rw [h.cell hn j hj]
  exact ⟨cs[j]'(by rw [h.1]; exact hj), List.getElem?_eq_getElem _⟩
theorem Own.frozen {w : World} {base : Nat} {E : TypeId} {size n g : Nat} {cs : List Value} (h : Own w base E size (some ⟨g, 0, none⟩) n cs) (hn : 0 < n) (j : Nat) : w.frozen? ⟨g, j, none⟩ = false := by
  obtain ⟨g', cur, e, hge, hg, ht⟩ := h.2 hn
  cases e
  exact frozen_of_row w g j cur E hg
theorem Own.set {w : World} {base : Nat} {E : TypeId} {size n g : Nat} {cs : List Value} (h : Own w base E size (some ⟨g, 0, none⟩) n cs) (j : Nat) (u : Value) : Own (w.setCell ⟨g, j, none⟩ u) base E size (some ⟨g, 0, none⟩) n (cs.set j u) := by
  refine ⟨by simpa using h.1, fun hn => ?_⟩
  obtain ⟨g', cur, e, hge, hg, ht⟩ := h.2 hn
  cases e
  refine ⟨g, cur.setIfInBounds j u, rfl, hge, heap_setCell_same w g j cur E u hg, ?_⟩
  rw [Array.toList_setIfInBounds, ← ht, List.take_set]

/-- Only the block of the slice (A, n) has turned. -/
structure Turned (A : Option Addr) (n : Nat) (w w' : World) : Prop where
  os : w'.os = w.os
  tape : w'.tape = w.tape
  output : w'.output = w.output
  size : w'.heap.size = w.heap.size
  block : ∀ k, (∀ a, 0 < n → A = some a → k ≠ a.block) → w'.heap[k]? = w.heap[k]?
theorem Turned.refl (A : Option Addr) (n : Nat) (w : World) : Turned A n w w := ⟨rfl, rfl, rfl, rfl, fun _ _ => rfl⟩
theorem Turned.setCell {g n : Nat} {a w : World} (h : Turned (some ⟨g, 0, none⟩) n a w) (hn : 0 < n) (o : Nat) (u : Value) : Turned (some ⟨g, 0, none⟩) n a (w.setCell ⟨g, o, none⟩ u) :=
  ⟨h.os, h.tape, h.output, by simpa [World.setCell] using h.size, fun k hk => (Below.heap_setCell w ⟨g, o, none⟩ u k (hk ⟨g, 0, none⟩ hn rfl)).trans (h.block k hk)⟩
theorem Turned.below {A : Option Addr} {n B : Nat} {w w' : World} (h : Turned A n w w') (hB : ∀ a, 0 < n → A = some a → B ≤ a.block) : Below B w w' :=
  ⟨h.os, h.tape, h.output, by rw [h.size]; exact Nat.le_refl _, fun k hk => h.block k (fun a hn ha => by have := hB a hn ha; omega)⟩
/-- what lies from a later base on is kept -/
theorem Turned.own {A A' : Option Addr} {n base : Nat} {w w' : World} {E : TypeId} {size n' : Nat} {cs : List Value} (h : Turned A n w w') (ho : Own w base E size A' n' cs) (hg : ∀ a, 0 < n → A = some a → a.block < base) : Own w' base E size A' n' cs := by
  refine ⟨ho.1, fun hn => ?_⟩
  obtain ⟨g', cur, e, hge, hh, ht⟩ := ho.2 hn
  exact ⟨g', cur, e, hge, (h.block g' (fun a h0 ha => by have := hg a h0 ha; omega)).trans hh, ht⟩

end Go.Proofs.Ytanogghchmjkgaa
