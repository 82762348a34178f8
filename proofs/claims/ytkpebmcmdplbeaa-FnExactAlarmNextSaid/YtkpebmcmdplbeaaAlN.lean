/- Plain laws of alarms: which one is looked at next. No program is in sight. -/
import Derived.Test.YtkpebmcmdplbeaaValAlarm
import Derived.Test.YtkpebmcmdplbeaaSrtG
namespace Go.Proofs.Ytkpebmcmdplbeaa
open Go.RowKit

abbrev aAt (l : List Alarm) (k : Nat) : Alarm := l.getD k Alarm.zero
/-- nobody has acknowledged it -/
def alAct (l : List Alarm) (k : Nat) : Bool := (aAt l k).fState == 1 || (aAt l k).fState == 3
/-- k is looked at before j, whichever is first -/
def alBt (l : List Alarm) (k j : Nat) : Bool := decide ((aAt l j).fRank < (aAt l k).fRank) || ((aAt l k).fRank == (aAt l j).fRank && decide ((aAt l k).fSince < (aAt l j).fSince))
theorem alBt_iff (l : List Alarm) (k j : Nat) : alBt l k j = true ↔ (aAt l j).fRank < (aAt l k).fRank ∨ ((aAt l k).fRank = (aAt l j).fRank ∧ (aAt l k).fSince < (aAt l j).fSince) := by simp [alBt]
theorem alBt_no (l : List Alarm) (k j : Nat) : alBt l k j = false ↔ ¬ ((aAt l j).fRank < (aAt l k).fRank ∨ ((aAt l k).fRank = (aAt l j).fRank ∧ (aAt l k).fSince < (aAt l j).fSince)) := by rw [← alBt_iff]; simp
def nextTo (l : List Alarm) : Nat → Int
  | 0 => -1
  | k + 1 => if alAct l k && (decide (nextTo l k < 0) || alBt l k (nextTo l k).toNat) then k else nextTo l k
def nextV (l : List Alarm) : Int := if valAlarm l then nextTo l l.length else -1
theorem nextTo_spec (l : List Alarm) : ∀ k, (nextTo l k = -1 ∧ ∀ i, i < k → alAct l i = false) ∨ ∃ j : Nat, nextTo l k = j ∧ j < k ∧ alAct l j = true ∧ ∀ i, i < k → alAct l i = true → i ≠ j → alBt l j i = true ∨ (alBt l i j = false ∧ j < i)
  | 0 => .inl ⟨rfl, fun i hi => absurd hi (by omega)⟩
  | k + 1 => by
    rw [nextTo]
    rcases nextTo_spec l k with ⟨e, hn⟩ | ⟨j, e, hj, ha, hb⟩
    · rw [e]
      cases hk : alAct l k with
      | true =>
        refine .inr ⟨k, by simp, by omega, hk, fun i hi hai hne => ?_⟩
        rw [hn i (by omega)] at hai; cases hai
      | false =>
        refine .inl ⟨by simp, fun i hi => ?_⟩
        rcases Nat.lt_or_ge i k with h | h
        · exact hn i h
        · have : i = k := by omega
          subst this; exact hk
    · rw [e]
      have hneg : decide ((j : Int) < 0) = false := by simp
      rw [hneg, Bool.false_or, Int.toNat_natCast]
      cases hk : (alAct l k && alBt l k j) with
      | true =>
        have hk' := Bool.and_eq_true_iff.1 hk
        refine .inr ⟨k, by simp, by omega, hk'.1, fun i hi hai hne => .inl ?_⟩
        have hkj := (alBt_iff l k j).1 hk'.2
        rw [alBt_iff]
        by_cases hij : i = j
        · subst hij; exact hkj
        · rcases hb i (by omega) hai hij with h | h
          · rw [alBt_iff] at h; omega
          · rw [alBt_no] at h; omega
      | false =>
        refine .inr ⟨j, by simp, by omega, ha, fun i hi hai hne => ?_⟩
        rcases Nat.lt_or_ge i k with h | h
        · exact hb i h hai hne
        · have : i = k := by omega
          subst this
          rw [hai, Bool.true_and] at hk
          exact .inr ⟨hk, by omega⟩
def headN : List Nat → Int
  | [] => -1
  | y :: _ => (y : Int)
/-- the first one in order is the next one -/
theorem next_head {l : List Alarm} {ys : List Nat} {n : Nat} (hp : ys.Pairwise fun i j => alBt l i j = true ∨ (alBt l j i = false ∧ i < j)) (hm : ∀ k, k ∈ ys ↔ k < n ∧ alAct l k = true) : nextTo l n = headN ys := by
  rcases nextTo_spec l n with ⟨e, hn⟩ | ⟨j, e, hj, ha, hb⟩
  · rw [e]
    cases ys with
    | nil => rfl
    | cons y ys =>
      have h := (hm y).1 (by simp)
      rw [hn y h.1] at h; exact absurd h.2 (by simp)
  · rw [e]
    have hmem : j ∈ ys := (hm j).2 ⟨hj, ha⟩
    cases ys with
    | nil => simp at hmem
    | cons y ys =>
      have hy := (hm y).1 (by simp)
      by_cases hne : y = j
      · rw [headN, hne]
      · exfalso
        have h1 := hb y hy.1 hy.2 hne
        have h2 : alBt l y j = true ∨ (alBt l j y = false ∧ y < j) := by
          rcases List.mem_cons.1 hmem with h | h
          · exact absurd h.symm hne
          · exact (List.pairwise_cons.1 hp).1 j h
        rw [alBt_iff, alBt_no] at h1 h2
        omega
/-- the indices of those that nobody has acknowledged, among the first k -/
def actTo (l : List Alarm) (k : Nat) : List Nat := (List.range k).filter (alAct l)
theorem actTo_succ (l : List Alarm) (k : Nat) : actTo l (k + 1) = actTo l k ++ (if alAct l k then [k] else []) := by
  unfold actTo
  rw [List.range_succ, List.filter_append]
  cases h : alAct l k <;> simp [h]
theorem actTo_le (l : List Alarm) (k : Nat) : (actTo l k).length ≤ k := by
  have := List.length_filter_le (alAct l) (List.range k)
  simpa [actTo] using this
theorem mem_actTo (l : List Alarm) (k i : Nat) : i ∈ actTo l k ↔ i < k ∧ alAct l i = true := by simp [actTo]
theorem actTo_asc (l : List Alarm) (k : Nat) : (actTo l k).Pairwise (· < ·) := List.Pairwise.filter _ List.pairwise_lt_range
theorem fo_trans (l : List Alarm) (i j k : Nat) (h : alBt l i j = true ∨ (alBt l j i = false ∧ i < j)) (h' : alBt l j k = true ∨ (alBt l k j = false ∧ j < k)) : alBt l i k = true ∨ (alBt l k i = false ∧ i < k) := by
  simp only [alBt_iff, alBt_no] at *
  omega
end Go.Proofs.Ytkpebmcmdplbeaa
