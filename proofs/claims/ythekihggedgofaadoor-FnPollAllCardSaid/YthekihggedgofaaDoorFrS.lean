/- Opening of arguments that are structs by value, of any number of one-cell fields, and of slices of bools. No statement is proved here. -/
import Derived.Test.YthekihggedgofaaDoorFr
import Derived.Deep.Grids
namespace Go.Proofs.YthekihggedgofaaDoor
open Go.ChangeShapes Go.WideShapes Go.RowKit Go.Deep

/-- bools as cells -/
def bools (xs : List Bool) : List Value := xs.map Value.bool
theorem bools_length (xs : List Bool) : (bools xs).length = xs.length := by simp [bools]
theorem Rd.bool {w : World} {A : Option Addr} {xs : List Bool} (h : Rd w A (bools xs)) {k : Nat} (hk : k < xs.length) :
    ∃ b o, A = some ⟨b, o, none⟩ ∧ b < w.heap.size ∧ w.cell? ⟨b, o + k, none⟩ = some (.bool (xs.getD k false)) := by
  obtain ⟨b, o, e, hlt, hc⟩ := h (by rw [bools_length]; omega)
  refine ⟨b, o, e, hlt, hc k _ ?_⟩
  simp [bools, hk]

section
variable {H : Type} {enc : TypeId × Value → H} {P : Program} {W : World} {base : Nat} {spare : Nat → Bool} {held : Bool}

theorem open_aggN {r : Reach} {b0 : Nat} {t : TypeId} {fs : Array Field} {v : Value} {d : DataW H} {p : List MemPlace} (hs : P.underlying t = some (.struct fs)) (hone : oneCellFields P fs = true) (hC : P.cellsOf t = fs.size)
    (hv : Value.okWide P W r b0 t v) (h : DataW.Trod enc P W base spare held t v d p) :
    ∃ cs : Array Value, v = .agg cs ∧ cs.size = fs.size ∧ ∀ (j : Nat) (f : Field) (c : Value), fs[j]? = some f → cs[j]? = some c → ∃ n y, DataW.trod enc P W base spare held n f.type [c] = some y := by
  obtain ⟨cs, rfl, hsz⟩ := okWide_struct hs hv
  obtain ⟨fuel, hf⟩ := h
  obtain ⟨ys, n, _, _, hlen, hyl, hfl⟩ := DataW.trod_struct hs hf
  refine ⟨cs, rfl, by omega, fun j f c hfj hcj => ?_⟩
  have hj : j < fs.size := by
    rcases Nat.lt_or_ge j fs.size with h | h
    · exact h
    · rw [Array.getElem?_eq_none h] at hfj; cases hfj
  obtain ⟨ho, hk⟩ := hone_of hone j _ hfj
  have h1 := hfl j _ hfj
  rw [ho, hk] at h1
  have hl : (Value.cells (.agg cs)).toList = cs.toList := by simp [Value.cells]
  rw [hl] at h1
  have hone' : (cs.toList.drop j).take 1 = [c] := by
    rw [List.drop_eq_getElem_cons (by simp; omega)]
    have : cs[j]? = some cs[j] := Array.getElem?_eq_getElem (by omega)
    rw [this] at hcj
    cases hcj
    simp
  rw [hone'] at h1
  obtain ⟨y, hy1⟩ : ∃ y, ys[j]? = some y := ⟨ys[j]'(by omega), List.getElem?_eq_getElem (by omega)⟩
  exact ⟨n, y, by rw [h1, hy1]⟩
theorem field_int {t : TypeId} {c : Value} (ht : P.underlying t = some (.int .i64)) (h : ∃ n y, DataW.trod enc P W base spare held n t [c] = some y) : ∃ x : Int, c = .int .i64 x ∧ (Lit.int .i64 x).wf = true := by
  obtain ⟨n, y, h⟩ := h
  obtain ⟨x, e, _, wx⟩ := DataW.trod_int ht h
  exact ⟨x, by simpa using e, wx⟩
theorem field_bool {t : TypeId} {c : Value} (ht : P.underlying t = some .bool) (h : ∃ n y, DataW.trod enc P W base spare held n t [c] = some y) : ∃ x : Bool, c = .bool x := by
  obtain ⟨n, y, h⟩ := h
  obtain ⟨x, e, _⟩ := DataW.trod_bool ht h
  exact ⟨x, by simpa using e⟩
theorem field_ints {t e : TypeId} {c : Value} (ht : P.underlying t = some (.slice e)) (he : P.underlying e = some (.int .i64)) (hc : P.cellsOf e = 1) (h : ∃ n y, DataW.trod enc P W base spare held n t [c] = some y) :
    ∃ (a : Option Addr) (n cap : Nat) (xs : List Int), c = .slice a n cap ∧ xs.length = n ∧ n ≤ maxLen ∧ Rd W a (ints xs) ∧ n ≤ cap := by
  obtain ⟨n, y, h⟩ := h
  obtain ⟨a, l, cap, e1⟩ := Go.Joins.slice_form ht h
  obtain rfl : c = .slice a l cap := by simpa using e1
  obtain ⟨xs, h1, h2, h3, _⟩ := open_intS (d := y.1) (p := y.2) ht he hc ⟨n, by simpa [Value.cells] using h⟩
  refine ⟨a, l, cap, xs, rfl, h1, h2, h3, ?_⟩
  rcases open_slice ht h with ⟨hcs, _⟩ | ⟨_, _, _, _, _, _, _, hcs, _, hl, _⟩
  · simp at hcs; omega
  · simp at hcs; omega
theorem field_bools {t e : TypeId} {c : Value} (ht : P.underlying t = some (.slice e)) (he : P.underlying e = some .bool) (hc : P.cellsOf e = 1) (h : ∃ n y, DataW.trod enc P W base (fun _ => true) held n t [c] = some y) :
    ∃ (a : Option Addr) (n cap : Nat) (xs : List Bool), c = .slice a n cap ∧ xs.length = n ∧ n ≤ maxLen ∧ Rd W a (bools xs) ∧ n ≤ cap := by
  obtain ⟨n, y, h⟩ := h
  rcases open_bools ht he hc h with ⟨hcs, _⟩ | ⟨x, len, cap, B, hcs, _, hl, hm, _, hcell⟩
  · simp at hcs
    subst hcs
    exact ⟨none, 0, 0, [], rfl, rfl, Nat.zero_le _, Rd.nil, Nat.le_refl _⟩
  · simp at hcs
    subst hcs
    refine ⟨some x, len, cap, (List.range len).map B, rfl, by simp, by omega, ?_, hl⟩
    intro h0
    have h0' : 0 < len := by simpa [bools] using h0
    obtain ⟨b, off, spot⟩ := x
    have hc0 := hcell 0 (by omega)
    have hspot : spot = none := by simpa [Addr.add] using World.cell?_spot hc0
    subst hspot
    have hadd : ∀ i, (⟨b, off, none⟩ : Addr).add i = ⟨b, off + i, none⟩ := fun i => by unfold Addr.add; split <;> simp_all
    have hblt : b < W.heap.size := by
      rcases Nat.lt_or_ge b W.heap.size with h | h
      · exact h
      · simp [World.cell?, hadd, Array.getElem?_eq_none h] at hc0
    refine ⟨b, off, rfl, hblt, fun k u hu => ?_⟩
    have hk : k < len := by
      rcases Nat.lt_or_ge k len with h | h
      · exact h
      · simp [bools, List.getElem?_eq_none (l := List.range len) (i := k) (by simpa using h)] at hu
    rw [← hadd, hcell k (by omega)]
    simpa [bools, hk] using hu
end
theorem array5 {α : Type} {cs : Array α} (h : cs.size = 5) : ∃ c0 c1 c2 c3 c4, cs = #[c0, c1, c2, c3, c4] := by
  obtain ⟨l⟩ := cs
  match l, h with
  | [c0, c1, c2, c3, c4], _ => exact ⟨c0, c1, c2, c3, c4, rfl⟩
theorem array8 {α : Type} {cs : Array α} (h : cs.size = 8) : ∃ c0 c1 c2 c3 c4 c5 c6 c7, cs = #[c0, c1, c2, c3, c4, c5, c6, c7] := by
  obtain ⟨l⟩ := cs
  match l, h with
  | [c0, c1, c2, c3, c4, c5, c6, c7], _ => exact ⟨c0, c1, c2, c3, c4, c5, c6, c7, rfl⟩
theorem array2 {α : Type} {cs : Array α} (h : cs.size = 2) : ∃ c0 c1, cs = #[c0, c1] := by
  obtain ⟨l⟩ := cs
  match l, h with
  | [c0, c1], _ => exact ⟨c0, c1, rfl⟩
end Go.Proofs.YthekihggedgofaaDoor
