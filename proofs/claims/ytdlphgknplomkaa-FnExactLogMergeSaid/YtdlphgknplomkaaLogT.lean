/- Contracts of LogBetween, of the reference and of the program. No statement is proved here. -/
import Derived.Test.YtdlphgknplomkaaLogV
import Derived.Test.YtdlphgknplomkaaSnEntry2
namespace Go.Proofs.Ytdlphgknplomkaa
open Go.RowKit

def inT (lo hi : Int) (e : Entry) : Bool := decide (lo ≤ e.fTime) && decide (e.fTime < hi)
def btTo (l : List Entry) (lo hi : Int) (k : Nat) : List Entry := (l.take k).filter (inT lo hi)
def bt (l : List Entry) (lo hi : Int) : List Entry := if logB l then l.filter (inT lo hi) else []
theorem btTo_succ (l : List Entry) (lo hi : Int) (k : Nat) (h : k < l.length) : btTo l lo hi (k + 1) = btTo l lo hi k ++ (if inT lo hi (l.getD k Entry.zero) then [l.getD k Entry.zero] else []) := by
  unfold btTo
  rw [List.take_succ_eq_append_getElem h, List.filter_append]
  simp [h, List.filter_cons]
theorem btTo_all (l : List Entry) (lo hi : Int) : btTo l lo hi l.length = l.filter (inT lo hi) := by unfold btTo; rw [List.take_length]
theorem btTo_le (l : List Entry) (lo hi : Int) (k : Nat) : (btTo l lo hi k).length ≤ k := by
  unfold btTo
  exact Nat.le_trans (List.length_filter_le _ _) (List.length_take_le _ _)
theorem log_len {l : List Entry} (h : logB l = true) : l.length ≤ 16 := by simpa using (Bool.and_eq_true_iff.1 h).2
theorem bt_len (l : List Entry) (lo hi : Int) : (bt l lo hi).length ≤ 1048576 := by
  unfold bt; split
  · next h => have := log_len h; have := List.length_filter_le (inT lo hi) l; omega
  · simp


/-- the call returns a row of its own -/
def RetRow (E : TypeId) (size : Nat) (cs : List Value) (n : Nat) (w : World) (e : Ending) (w' : World) : Prop :=
  ∃ B c, e = .returned (.slice B n c) ∧ w'.ownsRow w.heap.size E size (.slice B n c) n cs ∧ Below w.heap.size w w'
theorem RetRow.rets {E : TypeId} {size : Nat} {cs : List Value} {n : Nat} {w : World} {e : Ending} {w' : World} (h : RetRow E size cs n w e w') : RetS E size cs n w e w' := by
  obtain ⟨B, c, h1, h2, h3⟩ := h
  obtain ⟨B', c', e', ho⟩ := own_of_row h2
  cases e'
  exact ⟨_, _, h1, ho, h3⟩
theorem row_zero {w : World} {base : Nat} {E : TypeId} {size : Nat} : w.ownsRow base E size (.slice none 0 0) 0 [] := ⟨by simp, .inl ⟨rfl, rfl⟩⟩
theorem row_mono {w : World} {base base' : Nat} {E : TypeId} {size n : Nat} {v : Value} {cs : List Value} (h : w.ownsRow base E size v n cs) (hb : base' ≤ base) : w.ownsRow base' E size v n cs := by
  obtain ⟨h1, h2⟩ := h
  refine ⟨h1, ?_⟩
  rcases h2 with ⟨e1, e2⟩ | ⟨g, cap, cur, e, hge, h3⟩
  · exact .inl ⟨e1, e2⟩
  · exact .inr ⟨g, cap, cur, e, Nat.le_trans hb hge, h3⟩
theorem row_cap {w : World} {base n c : Nat} {E : TypeId} {size : Nat} {B : Option Addr} {cs : List Value} (h : w.ownsRow base E size (.slice B n c) n cs) : n ≤ c := by
  rcases h.2 with ⟨e, rfl⟩ | ⟨g, cap, cur, e, hge, hg, hn, hr⟩
  · omega
  · cases e; exact hn
theorem row_none {w : World} {base n c : Nat} {E : TypeId} {size : Nat} {B : Option Addr} {cs : List Value} (h : w.ownsRow base E size (.slice B n c) n cs) : B = none → n = 0 ∧ c = 0 := by
  intro e
  rcases h.2 with ⟨e1, e2⟩ | ⟨g, cap, cur, e1, _⟩
  · cases e1; exact ⟨rfl, rfl⟩
  · cases e1; cases e

end Go.Proofs.Ytdlphgknplomkaa
