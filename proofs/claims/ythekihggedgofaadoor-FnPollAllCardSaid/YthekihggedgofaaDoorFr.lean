/- Opening of arguments: what the reading of an argument gives the walks. No statement is proved here. -/
import Derived.Test.YthekihggedgofaaDoorLib
import Derived.ProofKit
import Derived.OpenShut
import Derived.ChangeOld
import Derived.Below
import Derived.Deep.Slices
import Derived.Deep.Fields
import Derived.ChangeSame
import Derived.Lib.SmallJoins
namespace Go.Proofs.YthekihggedgofaaDoor
open Go.ChangeShapes Go.WideShapes Go.RowKit Go.Deep

section
variable {H : Type} {enc : TypeId × Value → H} {P : Program} {W : World} {base : Nat} {spare : Nat → Bool} {held : Bool}

theorem open_intS {t e : TypeId} {a : Option Addr} {len cap : Nat} {d : DataW H} {p : List MemPlace} (ht : P.underlying t = some (.slice e)) (he : P.underlying e = some (.int .i64)) (hc : P.cellsOf e = 1)
    (h : DataW.Trod enc P W base spare held t (.slice a len cap) d p) :
    ∃ xs : List Int, xs.length = len ∧ len ≤ maxLen ∧ Rd W a (ints xs) ∧ ∀ x ∈ xs, (Lit.int .i64 x).wf = true := by
  obtain ⟨fuel, hf⟩ := h
  rcases open_ints ht he hc hf with ⟨hcs, _⟩ | ⟨x, l, c, zs, hcs, _, hl, hm, hz, _, hcell, hwz⟩
  · simp [Value.cells] at hcs
    obtain ⟨rfl, rfl, rfl⟩ := hcs
    exact ⟨[], rfl, Nat.zero_le _, Rd.nil, by simp⟩
  · simp [Value.cells] at hcs
    obtain ⟨rfl, rfl, rfl⟩ := hcs
    have hlz : len ≤ zs.length := by rw [hz]; split <;> omega
    refine ⟨zs.take len, by simp; omega, by omega, ?_, fun y hy => hwz y (List.mem_of_mem_take hy)⟩
    intro h0
    have h0' : 0 < len := by simp [ints] at h0; omega
    obtain ⟨b, off, spot⟩ := x
    have hc0 := hcell 0 (by omega)
    have hspot : spot = none := by simpa [Addr.add] using World.cell?_spot hc0
    subst hspot
    have hadd : ∀ i, (⟨b, off, none⟩ : Addr).add i = ⟨b, off + i, none⟩ := fun i => by unfold Addr.add; split <;> simp_all
    have hblt : b < W.heap.size := by
      rcases Nat.lt_or_ge b W.heap.size with h | h
      · exact h
      · simp [World.cell?, hadd, Array.getElem?_eq_none h] at hc0
    refine ⟨b, off, rfl, hblt, fun k u hu => ?_⟩
    have hk : k < len := by
      rcases Nat.lt_or_ge k len with h | h
      · exact h
      · simp [ints, List.getElem?_take, show ¬ k < len by omega] at hu
    rw [← hadd, hcell k (by omega)]
    simpa [ints, hk, show k < zs.length by omega] using hu

/-- every field of every struct of a slice is an int: its cell -/
theorem structS_cell {t e : TypeId} {fs : Array Field} {a : Option Addr} {len cap : Nat} {d : DataW H} {p : List MemPlace} (ht : P.underlying t = some (.slice e)) (he : P.underlying e = some (.struct fs))
    (hone : oneCellFields P fs = true) (hC : P.cellsOf e = fs.size) (hint : ∀ (j : Nat) (f : Field), fs[j]? = some f → P.underlying f.type = some (.int .i64))
    (h : DataW.Trod enc P W base spare held t (.slice a len cap) d p) :
    len ≤ maxLen ∧ (0 < len → ∃ x, a = some x ∧ ∀ i j, i < len → j < fs.size → ∃ z : Int, W.cell? (x.add (i * fs.size + j)) = some (.int .i64 z) ∧ (Lit.int .i64 z).wf = true) := by
  obtain ⟨fuel, hf⟩ := h
  rcases open_slice ht hf with ⟨hcs, _⟩ | ⟨x, l, c, m, n, D, Pl, hcs, _, hl, hm, hmm, _, hi⟩
  · simp [Value.cells] at hcs
    obtain ⟨rfl, rfl, rfl⟩ := hcs
    exact ⟨Nat.zero_le _, fun h => absurd h (by omega)⟩
  · simp [Value.cells] at hcs
    obtain ⟨rfl, rfl, rfl⟩ := hcs
    refine ⟨by omega, fun _ => ⟨x, rfl, fun i j hil hj => ?_⟩⟩
    have him : i < m := by rw [hmm]; split <;> omega
    obtain ⟨cs', hc, ht'⟩ := hi i him
    rw [hC] at hc
    obtain ⟨ys, n', hn', hy, hlen, hyl, hfl⟩ := DataW.trod_struct he ht'
    obtain ⟨_, hcl, hat⟩ := World.cells?_some hc
    have hfj : fs[j]? = some fs[j] := Array.getElem?_eq_getElem hj
    obtain ⟨ho, hk⟩ := hone_of hone j _ hfj
    have h1 := hfl j _ hfj
    rw [ho, hk] at h1
    have hone' : (cs'.drop j).take 1 = [cs'[j]'(by omega)] := by
      rw [List.drop_eq_getElem_cons (by omega)]; rfl
    rw [hone'] at h1
    obtain ⟨y, hy1⟩ : ∃ y, ys[j]? = some y := ⟨ys[j]'(by omega), List.getElem?_eq_getElem (by omega)⟩
    rw [hy1] at h1
    obtain ⟨z, e1, _, wz⟩ := DataW.trod_int (hint j _ hfj) h1
    refine ⟨z, ?_, wz⟩
    rw [← Go.Deep.add_add, hat j hj, List.getElem?_eq_getElem (by omega)]
    simp at e1
    rw [e1]

theorem open_structS {t e : TypeId} {fs : Array Field} {a : Option Addr} {len cap : Nat} {d : DataW H} {p : List MemPlace} (s : Nat) (ht : P.underlying t = some (.slice e)) (he : P.underlying e = some (.struct fs))
    (hs : fs.size = s) (hone : oneCellFields P fs = true) (hC : P.cellsOf e = fs.size) (hint : ∀ (j : Nat) (f : Field), fs[j]? = some f → P.underlying f.type = some (.int .i64))
    (h : DataW.Trod enc P W base spare held t (.slice a len cap) d p) :
    ∃ zs : List Int, zs.length = len * s ∧ len ≤ maxLen ∧ Rd W a (ints zs) ∧ ∀ x ∈ zs, (Lit.int .i64 x).wf = true := by
  obtain ⟨hm, hc⟩ := structS_cell ht he hone hC hint h
  subst hs
  rcases Nat.eq_zero_or_pos (len * fs.size) with h0 | h0
  · exact ⟨[], by simp [h0], hm, Rd.nil, by simp⟩
  have hlen : 0 < len := Nat.pos_of_mul_pos_right h0
  have hfs : 0 < fs.size := Nat.pos_of_mul_pos_left h0
  obtain ⟨x, rfl, hx⟩ := hc hlen
  have hx' : ∀ j, j < len * fs.size → ∃ z : Int, W.cell? (x.add j) = some (.int .i64 z) ∧ (Lit.int .i64 z).wf = true := by
    intro j hj
    have := hx (j / fs.size) (j % fs.size) (Nat.div_lt_of_lt_mul (by rwa [Nat.mul_comm])) (Nat.mod_lt _ hfs)
    rwa [Nat.div_add_mod'] at this
  have key : ∃ f : Nat → Int, ∀ j, j < len * fs.size → W.cell? (x.add j) = some (.int .i64 (f j)) ∧ (Lit.int .i64 (f j)).wf = true := by
    refine ⟨fun j => if h : j < len * fs.size then (hx' j h).choose else 0, fun j hj => ?_⟩
    simp only [dif_pos hj]; exact (hx' j hj).choose_spec
  obtain ⟨f, hf⟩ := key
  obtain ⟨b, off, spot⟩ := x
  have hc0 := (hf 0 h0).1
  have hspot : spot = none := by simpa [Addr.add] using World.cell?_spot hc0
  subst hspot
  have hadd : ∀ i, (⟨b, off, none⟩ : Addr).add i = ⟨b, off + i, none⟩ := fun i => by unfold Addr.add; split <;> simp_all
  have hblt : b < W.heap.size := by
    rcases Nat.lt_or_ge b W.heap.size with h | h
    · exact h
    · simp [World.cell?, hadd, Array.getElem?_eq_none h] at hc0
  refine ⟨(List.range (len * fs.size)).map f, by simp, hm, fun _ => ⟨b, off, rfl, hblt, fun k u hu => ?_⟩, ?_⟩
  · have hk : k < len * fs.size := by
      rcases Nat.lt_or_ge k (len * fs.size) with h | h
      · exact h
      · simp [ints, List.getElem?_eq_none (l := List.range (len * fs.size)) (i := k) (by simpa using h)] at hu
    rw [← hadd, (hf k hk).1]
    simpa [ints, hk] using hu
  · intro y hy
    simp only [List.mem_map, List.mem_range] at hy
    obtain ⟨j, hj, rfl⟩ := hy
    exact (hf j hj).2
end
end Go.Proofs.YthekihggedgofaaDoor
