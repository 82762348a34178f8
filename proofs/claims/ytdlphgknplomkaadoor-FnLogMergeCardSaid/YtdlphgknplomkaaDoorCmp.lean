/- Contracts of the library's cmp.Compare and cmp.Or at int. No statement is proved here. -/
import Derived.Test.YtdlphgknplomkaaDoorBase
import Derived.StillTailTactics
namespace Go.Proofs.YtdlphgknplomkaaDoor
open Go.RowKit

theorem still_of {P : Program} {f : FuncId} {args : Array Value} {w : World} {v : Value} (h : Calls P f args w fun e w' => e = .returned v ∧ w = w') : Calls P f args w fun e w' => e = .returned v ∧ w' = w :=
  h.mono fun _ _ ⟨a, b⟩ => ⟨a, b.symm⟩

theorem rd_new (w : World) (cs : Array Value) (t : TypeId) : Rd (w.alloc (.cells cs t)) (some ⟨w.heap.size, 0, none⟩) cs.toList := fun _ =>
  ⟨w.heap.size, 0, rfl, by simp, fun k u hu => by
    rw [Nat.zero_add, cell_of_row (w.alloc (.cells cs t)) w.heap.size k cs t (0, 0) (heap_alloc_new w _)]
    simpa using hu⟩
theorem one_box (w : World) (xs : Array Value) (t : TypeId) : ∀ j, (w.alloc (.cells xs t)).cell? ⟨w.heap.size, j, none⟩ = xs[j]? := fun j => cell_of_row _ w.heap.size j xs t (0, 0) (heap_alloc_new w _)
/-- two boxes one behind the other -/
theorem two_boxes (w : World) (xs ys : Array Value) (t t' : TypeId) :
    (∀ j, ((w.alloc (.cells xs t)).alloc (.cells ys t')).cell? ⟨w.heap.size, j, none⟩ = xs[j]?) ∧ (∀ j, ((w.alloc (.cells xs t)).alloc (.cells ys t')).cell? ⟨w.heap.size + 1, j, none⟩ = ys[j]?) := by
  refine ⟨fun j => ?_, fun j => ?_⟩
  · refine cell_of_row _ w.heap.size j xs t (0, 0) ?_
    rw [Below.heap_alloc _ _ _ (by simp)]; exact heap_alloc_new w _
  · refine cell_of_row _ (w.heap.size + 1) j ys t' (0, 0) ?_
    have := heap_alloc_new (w.alloc (.cells xs t)) (.cells ys t')
    simpa using this

/-- -1, 0 or 1, as x is less than, equal to or greater than y -/
def c3 (x y : Int) : Int := if x < y then -1 else if y < x then 1 else 0
theorem compare_any (x y : Int) (w : World) : Calls Tryd.prog 55 #[.int .i64 x, .int .i64 y] w fun e w' => e = .returned (.int .i64 (c3 x y)) ∧ w = w' := by
  have hx : (x != x) = false := by simp
  have hy : (y != y) = false := by simp
  by_cases h1 : x < y
  · have e : c3 x y = -1 := by rw [c3, if_pos h1]
    rw [e]; clear e
    go_enter Tryd.func55, Tryd.ntmps55
    go_wp2
    go_ret
    exact ⟨rfl, rfl⟩
  · by_cases h2 : y < x
    · have e : c3 x y = 1 := by rw [c3, if_neg h1, if_pos h2]
      rw [e]; clear e
      go_enter Tryd.func55, Tryd.ntmps55
      go_wp2
      go_ret
      exact ⟨rfl, rfl⟩
    · have e : c3 x y = 0 := by rw [c3, if_neg h1, if_neg h2]
      rw [e]; clear e
      go_enter Tryd.func55, Tryd.ntmps55
      go_wp2
      go_ret
      exact ⟨rfl, rfl⟩

/-- the first number that is not 0 -/
def orI : List Int → Int
  | [] => 0
  | x :: xs => if x != 0 then x else orI xs
theorem orI_drop (xs : List Int) (k : Nat) (h : k < xs.length) : orI (xs.drop k) = if xs.getD k 0 != 0 then xs.getD k 0 else orI (xs.drop (k + 1)) := by
  rw [List.drop_eq_getElem_cons h, orI]; simp [h]

set_option maxHeartbeats 400000 in
theorem or_any (A : Option Addr) (n c : Nat) (xs : List Int) (w : World) (hn : xs.length = n) (hm : n ≤ 1048576) (hA : Rd w A (ints xs)) :
    Calls Tryd.prog 54 #[.slice A n c] w fun e w' => e = .returned (.int .i64 (orI xs)) ∧ w = w' := by
  have HA := Lib.hid hA; clear hA
  have HN := Lib.hid hn; clear hn
  go_enter Tryd.func54, Tryd.ntmps54
  go_wp2_with fail
  go_loop [8] (fun i => ∃ k : Nat, k ≤ n ∧ i = .int .i64 k ∧ Hid (orI xs = orI (xs.drop k))) (fun i => n - (intOf i).toNat)
  case atStart => exact ⟨0, by omega, rfl, rfl⟩
  case round =>
    obtain ⟨k, hk, rfl, hp⟩ := hrel
    by_cases hlt : k < n
    · obtain ⟨b, o, rfl, _, hck⟩ := HA.out.int (k := k) (by have := HN.out; omega)
      have HS := Lib.hid (orI_drop xs k (by have := HN.out; omega))
      generalize xs.getD k 0 = x at *
      cases hx : (x != 0) with
      | true =>
        go_wp2_with fail
        go_ret
        exact ⟨ret_int (by rw [hp.out, HS.out, hx]; rfl), rfl⟩
      | false =>
        go_wp2_with fail
        go_round
        case rel => exact ⟨k + 1, by omega, by go_num, by rw [Hid, hp.out, HS.out, hx]; rfl⟩
        case measure => simp [intOf]; omega
    · go_wp2_with fail
      go_ret
      refine ⟨ret_int ?_, rfl⟩
      have := HN.out
      rw [hp.out, List.drop_eq_nil_of_le (by omega)]; rfl
end Go.Proofs.YtdlphgknplomkaaDoor
