/- Plain laws of logs. No program, and no statement, is proved here. -/
import Derived.Test.YtdlphgknplomkaaLogT
namespace Go.Proofs.Ytdlphgknplomkaa
open Go.RowKit

theorem lessB_iff (a b : Entry) : lessB a b = true ↔ a.fTime < b.fTime ∨ (a.fTime = b.fTime ∧ (a.fWho < b.fWho ∨ (a.fWho = b.fWho ∧ a.fNumber < b.fNumber))) := by
  simp [lessB]
theorem lessB_no (a b : Entry) : lessB a b = false ↔ ¬ (a.fTime < b.fTime ∨ (a.fTime = b.fTime ∧ (a.fWho < b.fWho ∨ (a.fWho = b.fWho ∧ a.fNumber < b.fNumber)))) := by
  rw [← lessB_iff]; simp
theorem less_trans {a b c : Entry} (h : lessB a b = true) (h' : lessB b c = true) : lessB a c = true := by
  rw [lessB_iff] at *; omega
theorem less_self (a : Entry) : lessB a a = false := by rw [lessB_no]; omega
theorem sameB_iff (e : Entry) (u v : Int) : sameB e u v = true ↔ e.fWho = u ∧ e.fNumber = v := by simp [sameB]

theorem logOk_iff (l : List Entry) (k : Nat) : logOk l k = true ↔ okE (eAt l k) = true ∧ (k = 0 ∨ lessB (eAt l (k - 1)) (eAt l k) = true) ∧ ∀ j, j < k → sameB (eAt l j) (eAt l k).fWho (eAt l k).fNumber = false := by
  simp only [logOk, dupB, Bool.and_eq_true, Bool.or_eq_true, beq_iff_eq, Bool.not_eq_true', List.any_eq_false, List.mem_range, Bool.not_eq_true, and_assoc]
theorem eAt_get {l : List Entry} {k : Nat} (h : k < l.length) : eAt l k = l[k] := by simp [eAt, h]
/-- a log is valid if all pairs are in order -/
theorem logB_pw (l : List Entry) : logB l = true ↔ (∀ e ∈ l, okE e = true) ∧ l.Pairwise (fun a b => lessB a b = true) ∧ l.Pairwise (fun a b => sameB a b.fWho b.fNumber = false) ∧ l.length ≤ 16 := by
  simp only [logB, Bool.and_eq_true, List.all_eq_true, List.mem_range, decide_eq_true_eq]
  constructor
  · rintro ⟨h, hl⟩
    have h' := fun k hk => (logOk_iff l k).1 (h k hk)
    have hless : ∀ j i, i < j → j < l.length → lessB (eAt l i) (eAt l j) = true := by
      intro j
      induction j with
      | zero => intro i hi; omega
      | succ j ih =>
        intro i hi hj
        have hs : lessB (eAt l j) (eAt l (j + 1)) = true := by
          rcases (h' (j + 1) hj).2.1 with e | e
          · omega
          · simpa using e
        by_cases hij : i = j
        · subst hij; exact hs
        · exact less_trans (ih i (by omega) (by omega)) hs
    refine ⟨fun e he => ?_, ?_, ?_, hl⟩
    · obtain ⟨i, hi, rfl⟩ := List.getElem_of_mem he
      rw [← eAt_get hi]; exact (h' i hi).1
    · rw [List.pairwise_iff_getElem]
      intro i j hi hj hij
      rw [← eAt_get hi, ← eAt_get hj]; exact hless j i hij hj
    · rw [List.pairwise_iff_getElem]
      intro i j hi hj hij
      rw [← eAt_get hi, ← eAt_get hj]; exact (h' j hj).2.2 i hij
  · rintro ⟨h1, h2, h3, h4⟩
    rw [List.pairwise_iff_getElem] at h2 h3
    refine ⟨fun k hk => (logOk_iff l k).2 ⟨?_, ?_, fun j hj => ?_⟩, h4⟩
    · rw [eAt_get hk]; exact h1 _ (List.getElem_mem hk)
    · rcases Nat.eq_zero_or_pos k with e | e
      · exact .inl e
      · right
        rw [eAt_get hk, eAt_get (show k - 1 < l.length by omega)]
        exact h2 (k - 1) k (by omega) hk (by omega)
    · rw [eAt_get hk, eAt_get (show j < l.length by omega)]
      exact h3 j k (by omega) hk hj
theorem log_sub {l m : List Entry} (h : logB l = true) (hs : List.Sublist m l) : logB m = true := by
  rw [logB_pw] at h ⊢
  exact ⟨fun e he => h.1 e (hs.subset he), h.2.1.sublist hs, h.2.2.1.sublist hs, Nat.le_trans hs.length_le h.2.2.2⟩
theorem log_drop {l : List Entry} (h : logB l = true) (k : Nat) : logB (l.drop k) = true := log_sub h (List.drop_sublist k l)
theorem log_nil : logB [] = true := by decide
theorem log_twice {l : List Entry} (h0 : 0 < l.length) : logB (l ++ [l.getD (l.length - 1) Entry.zero]) = false := by
  cases h : logB (l ++ [l.getD (l.length - 1) Entry.zero]) with
  | false => rfl
  | true =>
    have h2 := ((logB_pw _).1 h).2.1
    rw [List.pairwise_append] at h2
    have hm : l.getD (l.length - 1) Entry.zero ∈ l := by
      have : l.getD (l.length - 1) Entry.zero = l[l.length - 1] := by simp [show l.length - 1 < l.length by omega]
      rw [this]; exact List.getElem_mem _
    have := h2.2.2 _ hm _ (List.mem_singleton.2 rfl)
    rw [less_self] at this; cases this
/-- what FnEntryLess says -/
theorem entry_law (a b : Entry) : (lessB a b || lessB b a) = !(a.fTime == b.fTime && a.fWho == b.fWho && a.fNumber == b.fNumber) ∧ (lessB a b && lessB b a) = false ∧ lessB a a = false := by
  refine ⟨?_, ?_, less_self a⟩
  · rw [Bool.eq_iff_iff]
    simp only [Bool.or_eq_true, lessB_iff, Bool.not_eq_true', Bool.and_eq_false_iff, beq_eq_false_iff_ne, ne_eq]
    omega
  · cases h : (lessB a b && lessB b a) with
    | false => rfl
    | true =>
      rw [Bool.and_eq_true] at h
      have := less_trans h.1 h.2
      rw [less_self] at this; cases this
/-- times can be divided -/
theorem split_filter {lo mid hi : Int} (h1 : lo ≤ mid) (h2 : mid ≤ hi) : ∀ l : List Entry, l.Pairwise (fun a b => a.fTime ≤ b.fTime) → l.filter (inT lo hi) = l.filter (inT lo mid) ++ l.filter (inT mid hi)
  | [], _ => rfl
  | e :: l, h => by
    have hp := List.pairwise_cons.1 h
    have ih := split_filter h1 h2 l hp.2
    by_cases hm : e.fTime < mid
    · have e2 : inT mid hi e = false := by simp [inT]; omega
      by_cases hl : lo ≤ e.fTime
      · have e1 : inT lo hi e = true := by simp [inT]; omega
        have e3 : inT lo mid e = true := by simp [inT]; omega
        rw [List.filter_cons_of_pos e1, List.filter_cons_of_pos e3, List.filter_cons_of_neg (by simp [e2]), ih]; rfl
      · have e1 : inT lo hi e = false := by simp [inT]; omega
        have e3 : inT lo mid e = false := by simp [inT]; omega
        rw [List.filter_cons_of_neg (by simp [e1]), List.filter_cons_of_neg (by simp [e3]), List.filter_cons_of_neg (by simp [e2]), ih]
    · have hnil : (e :: l).filter (inT lo mid) = [] := by
        rw [List.filter_eq_nil_iff]
        intro x hx
        rw [List.mem_cons] at hx
        have : mid ≤ x.fTime := by
          rcases hx with rfl | hx
          · omega
          · have := hp.1 x hx; omega
        simp [inT]; omega
      rw [hnil, List.nil_append]
      refine List.filter_congr fun x hx => ?_
      rw [List.mem_cons] at hx
      have : mid ≤ x.fTime := by
        rcases hx with rfl | hx
        · omega
        · have := hp.1 x hx; omega
      unfold inT
      rw [decide_eq_true (show lo ≤ x.fTime by omega), decide_eq_true this]
theorem bt_valid (l : List Entry) (lo hi : Int) : logB (bt l lo hi) = true := by
  unfold bt
  split
  · next h => exact log_sub h List.filter_sublist
  · exact log_nil
theorem bt_split (l : List Entry) {lo mid hi : Int} (h1 : lo ≤ mid) (h2 : mid ≤ hi) : bt l lo mid ++ bt l mid hi = bt l lo hi := by
  unfold bt
  split
  · next h =>
    refine (split_filter h1 h2 l ?_).symm
    refine List.Pairwise.imp ?_ ((logB_pw l).1 h).2.1
    intro a b hab
    rw [lessB_iff] at hab; omega
  · rfl
end Go.Proofs.Ytdlphgknplomkaa
