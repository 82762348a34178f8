/- Contracts of the small functions that every law of this seat goes through: l1In, powerValid, toIntS, eqIntS, markIntS, heldIntS. No statement is proved here. -/
import Derived.Test.YthekihggedgofaaDoorChecked
import Derived.Test.YthekihggedgofaaDoorLib
import Derived.Outline
import Derived.Deep.QuietTactic
import Derived.BigQuiet
import Derived.Deep.LoopGhost
import Derived.OwnWalk
namespace Go.Proofs.YthekihggedgofaaDoor
open Go.RowKit

def inB (n lo hi : Int) : Bool := decide (lo ≤ n) && decide (n ≤ hi)
theorem inB_iff (n lo hi : Int) : inB n lo hi = true ↔ lo ≤ n ∧ n ≤ hi := by simp [inB]
theorem inB_not (n lo hi : Int) : inB n lo hi = false ↔ n < lo ∨ hi < n := by simp [inB]; omega

theorem l1In_any (n lo hi : Int) (w : World) :
    Calls Tryd.prog 20 #[.int .i64 n, .int .i64 lo, .int .i64 hi] w fun e w' => e = .returned (.bool (inB n lo hi)) ∧ w = w' := by
  by_cases h1 : lo ≤ n
  · by_cases h2 : n ≤ hi
    · have e : inB n lo hi = true := by simp [inB, h1, h2]
      rw [e]; clear e
      go_enter Tryd.func20, Tryd.ntmps20
      go_wp2
      go_ret
      exact ⟨rfl, rfl⟩
    · have e : inB n lo hi = false := by simp [inB, h1, h2]
      rw [e]; clear e
      go_enter Tryd.func20, Tryd.ntmps20
      go_wp2
      go_ret
      exact ⟨rfl, rfl⟩
  · have e : inB n lo hi = false := by simp [inB, h1]
    rw [e]; clear e
    go_enter Tryd.func20, Tryd.ntmps20
    go_wp2
    go_ret
    exact ⟨rfl, rfl⟩

theorem pv_any (n : Int) (w : World) :
    Calls Tryd.prog 17 #[.int .i64 n] w fun e w' => e = .returned (.bool (inB n 0 999)) ∧ w = w' := by
  by_cases h1 : 0 ≤ n
  · by_cases h2 : n ≤ 999
    · have e : inB n 0 999 = true := by simp [inB, h1, h2]
      rw [e]; clear e
      go_enter Tryd.func17, Tryd.ntmps17
      go_wp2
      go_ret
      exact ⟨rfl, rfl⟩
    · have e : inB n 0 999 = false := by simp [inB, h1, h2]
      rw [e]; clear e
      go_enter Tryd.func17, Tryd.ntmps17
      go_wp2
      go_ret
      exact ⟨rfl, rfl⟩
  · have e : inB n 0 999 = false := by simp [inB, h1]
    rw [e]; clear e
    go_enter Tryd.func17, Tryd.ntmps17
    go_wp2
    go_ret
    exact ⟨rfl, rfl⟩

theorem info_int : (Tryd.prog.info? 3).map (fun i => (i.zero, i.size, i.bytes)) = some (some (.int .i64 0), 1, 8) := by kernel_rfl

/-- what a copy holds after k rounds -/
def copied (xs : List Int) (n k : Nat) : List Value := ints (xs.take k) ++ List.replicate (n - k) (.int .i64 0)
theorem copied_zero (xs : List Int) (n : Nat) : copied xs n 0 = List.replicate n (.int .i64 0) := by simp [copied, ints]
theorem copied_all (xs : List Int) : copied xs xs.length xs.length = ints xs := by simp [copied]
theorem copied_succ (xs : List Int) (n k : Nat) (hn : xs.length = n) (hk : k < n) : (copied xs n k).set k (.int .i64 (xs.getD k 0)) = copied xs n (k + 1) := by
  have h : k < xs.length := by omega
  unfold copied ints
  rw [List.take_succ_eq_append_getElem h, List.map_append]
  obtain ⟨m, hm⟩ : ∃ m, n - k = m + 1 := ⟨n - k - 1, by omega⟩
  rw [hm, show n - (k + 1) = m by omega, List.replicate_succ]
  rw [List.set_append_right _ _ (by simp; omega)]
  simp [h, show min k xs.length = k by omega]



/-- what marking leaves: the numbers from k on -/
def marks (k : Int) (n : Nat) : List Int := (List.range n).map fun (i : Nat) => k + (i : Int)
theorem marks_length (k : Int) (n : Nat) : (marks k n).length = n := by simp [marks]
theorem marks_getD (k : Int) (n i : Nat) (h : i < n) : (marks k n).getD i 0 = k + i := by simp [marks, h]

theorem marked_succ (cs : List Value) (j : Nat) (m : Int) (hl : j < cs.length) (ht : cs.take j = ints (marks m j)) : (cs.set j (.int .i64 (m + j))).take (j + 1) = ints (marks m (j + 1)) := by
  rw [List.take_succ_eq_append_getElem (by simpa using hl), List.take_set, List.set_eq_of_length_le (by simp; omega), ht]
  simp [ints, marks, List.range_succ]
theorem marked_at (cs : List Value) (j : Nat) (m x : Int) (hl : j < cs.length) (hx : x = m + (j : Nat)) (ht : cs.take j = ints (marks m j)) : (cs.set j (.int .i64 x)).take (j + 1) = ints (marks m (j + 1)) := by
  subst hx; exact marked_succ cs j m hl ht


end Go.Proofs.YthekihggedgofaaDoor
