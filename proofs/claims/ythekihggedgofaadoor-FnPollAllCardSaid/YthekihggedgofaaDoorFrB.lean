/- Opening of an argument that is a slice of bytes. No statement is proved here. -/
import Derived.Test.YthekihggedgofaaDoorFr
import Derived.Test.YthekihggedgofaaDoorDraw
namespace Go.Proofs.YthekihggedgofaaDoor
open Go.ChangeShapes Go.WideShapes Go.RowKit Go.Deep

section
variable {H : Type} {enc : TypeId × Value → H} {P : Program} {W : World} {base : Nat} {spare : Nat → Bool} {held : Bool}
theorem u8_wf {z : Int} (h : (Lit.int .u8 z).wf = true) : 0 ≤ z ∧ z ≤ 255 := by
  rcases Int.lt_or_le z 0 with g | g
  · exact absurd h (by simp [Lit.wf, IntKind.min, IntKind.max, IntKind.signed, IntKind.bits]; omega)
  · refine ⟨g, ?_⟩
    rcases Int.lt_or_le 255 z with g' | g'
    · exact absurd h (by simp [Lit.wf, IntKind.min, IntKind.max, IntKind.signed, IntKind.bits]; omega)
    · exact g'
theorem open_byteS {t e : TypeId} {a : Option Addr} {len cap : Nat} {d : DataW H} {p : List MemPlace} (ht : P.underlying t = some (.slice e)) (he : P.underlying e = some (.int .u8)) (hC : P.cellsOf e = 1)
    (h : DataW.Trod enc P W base spare held t (.slice a len cap) d p) : len ≤ cap ∧ len ≤ maxLen ∧ RdB W a len := by
  obtain ⟨fuel, hf⟩ := h
  rcases open_slice ht hf with ⟨hcs, _⟩ | ⟨x, l, c, m, n, D, Pl, hcs, _, hl, hm, hmm, _, hi⟩
  · simp [Value.cells] at hcs
    obtain ⟨rfl, rfl, rfl⟩ := hcs
    exact ⟨Nat.le_refl _, Nat.zero_le _, fun h => absurd h (by omega)⟩
  · simp [Value.cells] at hcs
    obtain ⟨rfl, rfl, rfl⟩ := hcs
    have key : ∀ i, i < len → ∃ z : Int, W.cell? (x.add i) = some (.int .u8 z) ∧ 0 ≤ z ∧ z ≤ 255 := by
      intro i hil
      have him : i < m := by rw [hmm]; split <;> omega
      obtain ⟨cs', hc, ht'⟩ := hi i him
      rw [hC] at hc
      obtain ⟨_, hcl, hat⟩ := World.cells?_some hc
      obtain ⟨z, e1, _, wz⟩ := DataW.trod_int he ht'
      refine ⟨z, ?_, u8_wf wz⟩
      have := hat 0 (by omega)
      rw [e1] at this
      rw [Go.Deep.add_add] at this
      simpa [Nat.mul_one] using this
    refine ⟨by omega, by omega, fun h0 => ?_⟩
    obtain ⟨b, off, spot⟩ := x
    obtain ⟨z0, hc0, _⟩ := key 0 h0
    have hspot : spot = none := by simpa [Addr.add] using World.cell?_spot hc0
    subst hspot
    have hadd : ∀ i, (⟨b, off, none⟩ : Addr).add i = ⟨b, off + i, none⟩ := fun i => by unfold Addr.add; split <;> simp_all
    have hblt : b < W.heap.size := by
      rcases Nat.lt_or_ge b W.heap.size with h | h
      · exact h
      · simp [World.cell?, hadd, Array.getElem?_eq_none h] at hc0
    refine ⟨b, off, rfl, hblt, fun k hk => ?_⟩
    obtain ⟨z, hz, h1, h2⟩ := key k hk
    exact ⟨z, h1, h2, by rw [← hadd]; exact hz⟩
end
end Go.Proofs.YthekihggedgofaaDoor
