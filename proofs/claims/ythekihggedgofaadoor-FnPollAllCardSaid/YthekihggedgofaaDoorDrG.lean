/- Words for slices that are drawn. No statement is proved here. -/
import Derived.Test.YthekihggedgofaaDoorDrL
import Derived.Test.YthekihggedgofaaDoorFrB
import Derived.Test.YthekihggedgofaaDoorApp
import Derived.Deep.CutRange
namespace Go.Proofs.YthekihggedgofaaDoor
open Go.RowKit
theorem rdPart {w : World} {b o h : Nat} {cs : List Value} (hr : Rd w (some ⟨b, o, none⟩) cs) : Rd w (some ⟨b, o + h, none⟩) (cs.drop h) := by
  intro h0
  obtain ⟨b', o', e, hl, hc⟩ := hr (by simp at h0; omega)
  cases e
  refine ⟨b, o + h, rfl, hl, fun k u hu => ?_⟩
  rw [List.getElem?_drop] at hu
  have := hc (h + k) u hu
  rwa [← Nat.add_assoc] at this
theorem rdFirst {w : World} {A : Option Addr} {h : Nat} {cs : List Value} (hr : Rd w A cs) : Rd w A (cs.take h) := by
  intro h0
  obtain ⟨b, o, e, hl, hc⟩ := hr (by simp at h0; omega)
  refine ⟨b, o, e, hl, fun k u hu => hc k u ?_⟩
  rw [List.getElem?_take] at hu
  split at hu
  · exact hu
  · cases hu
theorem row_is {w : World} {base : Nat} {E : TypeId} {size n n' : Nat} {v : Value} {cs cs' : List Value} (h : w.ownsRow base E size v n cs) (e1 : n = n') (e2 : cs = cs') : ∃ B c, v = .slice B n' c ∧ w.ownsRow base E size (.slice B n' c) n' cs' := by
  subst e1; subst e2
  obtain ⟨B, c, rfl, _⟩ := own_of_row h
  exact ⟨B, c, rfl, h⟩
theorem fm_nil {B : Option Addr} {n c : Nat} (h : Fm B n c) (e : B = none) : n = 0 ∧ c = 0 := by
  obtain ⟨h1, h2⟩ := h
  rcases h2 with ⟨_, h⟩ | ⟨g, h⟩
  · exact ⟨by omega, h⟩
  · rw [e] at h; cases h
theorem own_blk {a n c k : Nat} (h : (Value.slice (some ⟨a, 0, none⟩) n c).ownBlock = some k) : k = a := by
  unfold Value.ownBlock at h; simpa [eq_comm] using h
/-- cells of its own, size of them an element; R f: the reader -/
def DrS (E : TypeId) (size : Nat) {α : Type} (flat : List α → List Value) (m : Nat) (R f : Nat) (w : World) (e : Ending) (w' : World) : Prop :=
  ∃ (l : List α) (B : Option Addr) (c : Nat), e = .returned (.slice B l.length c) ∧ l.length ≤ m ∧ Fm B l.length c ∧ Own w' w.heap.size E size B l.length (flat l) ∧ Rdr w' R f ∧ w.grownBy w' (some R)
def DS (E : TypeId) (size : Nat) {α : Type} (flat : List α → List Value) (m : Nat) (w : World) (e : Ending) (w' : World) : Prop :=
  ∃ (l : List α) (B : Option Addr) (c : Nat), e = .returned (.slice B l.length c) ∧ l.length ≤ m ∧ Fm B l.length c ∧ Own w' w.heap.size E size B l.length (flat l) ∧ Below w.heap.size w w'
end Go.Proofs.YthekihggedgofaaDoor
