/- What the condition on the listed variable alarmStates gives the walks, and that it reads afterwards as before. No statement is proved here. -/
import Derived.Test.YtodkccjfhpeoaaaDoorRows
import Derived.Test.YtodkccjfhpeoaaaDoorAlS
import Derived.ProofKit
import Derived.OpenShut
import Derived.LaidMore
import Derived.Lib.LaidTab
import Derived.WalkSmall
import Derived.ChangeOld
namespace Go.Proofs.YtodkccjfhpeoaaaDoor
open Go.ChangeShapes Go.WideShapes Go.RowKit

theorem st_cells {H : Type} {enc : TypeId × Value → H} {W : World} {base : Nat} {sp : Nat → Bool} {held : Bool} {fuel : Nat} {cs : Array Value} {p : List MemPlace} {nm : String}
    (hg : Tryd.prog.globalNamed nm = some 0) (hv : W.var? Tryd.prog nm = some cs) (hd : DataW.trod enc Tryd.prog W base sp held fuel 50 cs.toList = some (Rows.laid_loop_example_powercontrol_impl_alarmStates, p)) : ASt W := by
  have c3 : Tryd.prog.cellsOf 3 = 1 := by kernel_rfl
  have c49 : Tryd.prog.cellsOf 49 = 3 := by kernel_rfl
  have c50 : Tryd.prog.cellsOf 50 = 12 := by kernel_rfl
  obtain ⟨xs, m, rfl, hx, hlen, hn4, hel⟩ := DataW.trod_array Tryd.underlying50 hd
  rw [c49] at hel
  rw [c50] at hlen
  simp only [Prod.mk.injEq, Rows.laid_loop_example_powercontrol_impl_alarmStates, DataW.agg.injEq] at hx
  have row : ∀ (i : Nat) (zs : List Int), i < 4 → (xs.map (·.1))[i]? = some (Lib.tabData .i64 zs) → (cs.toList.drop (i * 3)).take 3 = zs.map fun z => Value.int .i64 z := by
    intro i zs hi he
    have h1 := hel i hi
    have hxi : xs[i]? = some (xs[i]'(by omega)) := List.getElem?_eq_getElem (by omega)
    rw [hxi] at h1
    rw [List.getElem?_map, hxi] at he
    have he' : (xs[i]'(by omega)).1 = Lib.tabData .i64 zs := by simpa using he
    obtain ⟨a, b⟩ : ∃ q, xs[i]'(by omega) = (Lib.tabData .i64 zs, q) := ⟨(xs[i]'(by omega)).2, by rw [← he']⟩
    rw [b] at h1
    exact Lib.cells_of_tab Tryd.underlying49 Tryd.underlying3 c3 c49 h1
  have r0 := row 0 [1, 0, 0] (by omega) (by rw [← hx.1]; rfl)
  have r1 := row 1 [1, 3, 2] (by omega) (by rw [← hx.1]; rfl)
  have r2 := row 2 [2, 0, 2] (by omega) (by rw [← hx.1]; rfl)
  have r3 := row 3 [1, 3, 0] (by omega) (by rw [← hx.1]; rfl)
  have hall : cs.toList = stT.map fun z => Value.int .i64 z := by
    have e : cs.toList = (cs.toList.drop (0 * 3)).take 3 ++ ((cs.toList.drop (1 * 3)).take 3 ++ ((cs.toList.drop (2 * 3)).take 3 ++ (cs.toList.drop (3 * 3)).take 3)) := by
      generalize cs.toList = l at hlen
      match l, hlen with
      | [_, _, _, _, _, _, _, _, _, _, _, _], _ => rfl
    rw [e, r0, r1, r2, r3]; rfl
  intro k hk
  have hcell := World.var?_cell hg hv k
  rw [hcell, ← Array.getElem?_toList, hall]
  simp only [List.getElem?_map]
  have : stT.length = 12 := rfl
  rw [List.getElem?_eq_getElem (by omega)]
  simp [this, hk]

theorem keep_var {H : Type} {enc : TypeId × Value → H} {W W' : World} {nm : String} {g : Nat} {t : TypeId} {cs : Array Value} {fuel : Nat} {d : DataW H} {p : List MemPlace} (hl : laidOutB Tryd.prog = true) (hr : Tryd.prog.readableRec t = true) (hrow : t < Tryd.prog.types.size)
    (hg : Tryd.prog.globalNamed nm = some g) (ht : (Tryd.prog.globals[g]?).map (·.type) = some t) (hv : W.var? Tryd.prog nm = some cs) (hd : DataW.trod enc Tryd.prog W 0 (fun _ => true) true fuel t cs.toList = some (d, p))
    (bel : Below W.heap.size W W') : DataW.TrodVars enc Tryd.prog W' (fun b => decide (b < W.heap.size)) [nm] [d] (MemPlace.row ⟨g, 0, none⟩ cs.size ++ p) := by
  have hgW : g < W.heap.size := by
    rcases Nat.lt_or_ge g W.heap.size with h | h
    · exact h
    · simp [World.var?, hg, Array.getElem?_eq_none h] at hv
  have hlt : ∀ x ∈ p, x.block < W.heap.size := DataW.trod_lt fuel _ _ _ hd
  exact trodVars_mk1 hg ht (var?_below bel hg hgW hv) (DataW.trod_stays (kids_book hl hr) (book_sized hr) (fun h => by cases h) ⟨hrow, book_self t⟩ hd (fun x hx => bel.same (hlt x hx)) (fun x hx => by simpa using hlt x hx))
end Go.Proofs.YtodkccjfhpeoaaaDoor
