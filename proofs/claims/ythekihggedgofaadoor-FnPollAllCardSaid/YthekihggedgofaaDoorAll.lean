/- Small laws on lists, used by the loops that look at each element. No statement is proved here. -/
import Derived.Test.YthekihggedgofaaDoorBase
namespace Go.Proofs.YthekihggedgofaaDoor

theorem all_take_succ {α : Type} (p : α → Bool) (xs : List α) (d : α) (k : Nat) (h : k < xs.length) :
    (xs.take (k+1)).all p = ((xs.take k).all p && p (xs.getD k d)) := by
  rw [List.take_succ_eq_append_getElem h, List.all_append]; simp [h]
theorem all_false {α : Type} (p : α → Bool) (xs : List α) (d : α) (k : Nat) (h : k < xs.length) (hp : p (xs.getD k d) = false) : xs.all p = false := by
  rw [List.all_eq_false]
  refine ⟨xs[k], List.getElem_mem h, ?_⟩
  simp [h] at hp; simp [hp]
theorem all_take_all {α : Type} (p : α → Bool) (xs : List α) (k : Nat) (h : xs.length ≤ k) : (xs.take k).all p = xs.all p := by rw [List.take_of_length_le h]
end Go.Proofs.YthekihggedgofaaDoor
