/- Contracts of the library's cmp.Compare and cmp.Or at int. No statement is proved here. -/
import Derived.Test.YthekihggedgofaaDoorBase
import Derived.StillTailTactics
namespace Go.Proofs.YthekihggedgofaaDoor
open Go.RowKit

theorem still_of {P : Program} {f : FuncId} {args : Array Value} {w : World} {v : Value} (h : Calls P f args w fun e w' => e = .returned v ∧ w = w') : Calls P f args w fun e w' => e = .returned v ∧ w' = w :=
  h.mono fun _ _ ⟨a, b⟩ => ⟨a, b.symm⟩

theorem rd_new (w : World) (cs : Array Value) (t : TypeId) : Rd (w.alloc (.cells cs t)) (some ⟨w.heap.size, 0, none⟩) cs.toList := fun _ =>
  ⟨w.heap.size, 0, rfl, by simp, fun k u hu => by
    rw [Nat.zero_add, cell_of_row (w.alloc (.cells cs t)) w.heap.size k cs t (0, 0) (heap_alloc_new w _)]
    simpa using hu⟩
theorem one_box (w : World) (xs : Array Value) (t : TypeId) : ∀ j, (w.alloc (.cells xs t)).cell? ⟨w.heap.size, j, none⟩ = xs[j]? := fun j => cell_of_row _ w.heap.size j xs t (0, 0) (heap_alloc_new w _)
/-- two boxes one behind the other -/
theorem two_boxes (w : World) (xs ys : Array Value) (t t' : TypeId) :
    (∀ j, ((w.alloc (.cells xs t)).alloc (.cells ys t')).cell? ⟨w.heap.size, j, none⟩ = xs[j]?) ∧ (∀ j, ((w.alloc (.cells xs t)).alloc (.cells ys t')).cell? ⟨w.heap.size + 1, j, none⟩ = ys[j]?) := by
  refine ⟨fun j => ?_, fun j => ?_⟩
  · refine cell_of_row _ w.heap.size j xs t (0, 0) ?_
    rw [Below.heap_alloc _ _ _ (by simp)]; exact heap_alloc_new w _
  · refine cell_of_row _ (w.heap.size + 1) j ys t' (0, 0) ?_
    have := heap_alloc_new (w.alloc (.cells xs t)) (.cells ys t')
    simpa using this

/-- -1, 0 or 1, as x is less than, equal to or greater than y -/
def c3 (x y : Int) : Int := if x < y then -1 else if y < x then 1 else 0

/-- the first number that is not 0 -/
def orI : List Int → Int
  | [] => 0
  | x :: xs => if x != 0 then x else orI xs
theorem orI_drop (xs : List Int) (k : Nat) (h : k < xs.length) : orI (xs.drop k) = if xs.getD k 0 != 0 then xs.getD k 0 else orI (xs.drop (k + 1)) := by
  rw [List.drop_eq_getElem_cons h, orI]; simp [h]

end Go.Proofs.YthekihggedgofaaDoor
