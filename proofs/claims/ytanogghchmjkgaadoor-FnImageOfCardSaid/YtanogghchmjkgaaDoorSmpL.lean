/- Plain laws of samples, reports and images. No program, and no statement, is proved here. -/
import Derived.Test.YtanogghchmjkgaaDoorGap
namespace Go.Proofs.YtanogghchmjkgaaDoor
open Go.RowKit

theorem smp_tail {xs : List Int} (h : smpB xs = true) (j : Nat) : smpB (xs.drop j) = true := by
  simp only [smpB, Bool.and_eq_true, List.all_eq_true, decide_eq_true_eq] at h ⊢
  exact ⟨fun x hx => h.1 x (List.mem_of_mem_drop hx), by simp; omega⟩
theorem smp_take {xs : List Int} (h : smpB xs = true) (j : Nat) : smpB (xs.take j) = true := by
  simp only [smpB, Bool.and_eq_true, List.all_eq_true, decide_eq_true_eq] at h ⊢
  exact ⟨fun x hx => h.1 x (List.mem_of_mem_take hx), by simp; omega⟩
theorem smp_neg (xs : List Int) : smpB (xs ++ [-1]) = false := by
  rw [smpB, List.all_append]
  have : ([-1] : List Int).all (fun x => inB x 0 999) = false := by decide
  rw [this]; simp

theorem rep_nil : repB [] = false := by decide
theorem repB_iff (l : List Report) : repB l = true ↔ (∀ k, k < l.length → ((0 ≤ (l.getD k Report.zero).fValue ∧ (l.getD k Report.zero).fValue ≤ 999) ∧ (0 ≤ (l.getD k Report.zero).fAt ∧ (l.getD k Report.zero).fAt ≤ 19)) ∧ (k = 0 ∨ (l.getD (k - 1) Report.zero).fAt < (l.getD k Report.zero).fAt)) ∧ (1 ≤ l.length ∧ l.length ≤ 20) ∧ (l.getD 0 Report.zero).fAt = 0 := by
  simp only [repB, Bool.and_eq_true, List.all_eq_true, List.mem_range, inB_iff, beq_iff_eq, repOk, Bool.or_eq_true, decide_eq_true_eq]
  constructor
  · rintro ⟨⟨h1, h2⟩, h3⟩; exact ⟨h1, by omega, h3⟩
  · rintro ⟨h1, h2, h3⟩; exact ⟨⟨h1, by omega⟩, h3⟩
theorem getD_take {l : List Report} {k n : Nat} (h : k < n) : (l.take n).getD k Report.zero = l.getD k Report.zero := by
  simp [List.getD_eq_getElem?_getD, h]
theorem getD_drop {l : List Report} {k n : Nat} : (l.drop n).getD k Report.zero = l.getD (n + k) Report.zero := by
  simp [List.getD_eq_getElem?_getD, List.getElem?_drop]
theorem getD_app {l m : List Report} {k : Nat} (h : k < l.length) : (l ++ m).getD k Report.zero = l.getD k Report.zero := by
  simp [List.getD_eq_getElem?_getD, List.getElem?_append_left h]
theorem rep_init {l : List Report} (h : repB l = true) (h2 : 2 ≤ l.length) : repB (l.take (l.length - 1)) = true := by
  rw [repB_iff] at h ⊢
  obtain ⟨h1, h3, h4⟩ := h
  have hl : (l.take (l.length - 1)).length = l.length - 1 := by simp
  rw [hl]
  refine ⟨fun k hk => ?_, by omega, by rw [getD_take (by omega)]; exact h4⟩
  rw [getD_take hk, getD_take (by omega)]
  exact h1 k (by omega)
theorem rep_tail {l : List Report} (h : repB l = true) (h2 : 2 ≤ l.length) : repB (l.drop 1) = false := by
  cases hr : repB (l.drop 1) with
  | false => rfl
  | true =>
    rw [repB_iff] at h hr
    have h1 := hr.2.2
    rw [getD_drop] at h1
    rcases (h.1 1 (by omega)).2 with e | e
    · omega
    · have := h.2.2; simp at h1 e this; omega

/-- the last report that is not of a later one -/
theorem last_le {l : List Report} (h : repB l = true) {k : Int} (hk : 0 ≤ k) : ∃ j, j < l.length ∧ (l.getD j Report.zero).fAt ≤ k ∧ (j + 1 < l.length → k < (l.getD (j + 1) Report.zero).fAt) := by
  have h' := (repB_iff l).1 h
  have key : ∀ m, m < l.length → ∃ j, j < m + 1 ∧ (l.getD j Report.zero).fAt ≤ k ∧ (j + 1 < m + 1 → k < (l.getD (j + 1) Report.zero).fAt) := by
    intro m
    induction m with
    | zero => intro _; exact ⟨0, by omega, by rw [h'.2.2]; exact hk, by omega⟩
    | succ m ih =>
      intro hm
      obtain ⟨j, hj, h1, h2⟩ := ih (by omega)
      by_cases hc : (l.getD (m + 1) Report.zero).fAt ≤ k
      · exact ⟨m + 1, by omega, hc, by omega⟩
      · refine ⟨j, by omega, h1, fun h3 => ?_⟩
        by_cases hjm : j + 1 = m + 1
        · rw [hjm]; omega
        · exact h2 (by omega)
  obtain ⟨j, hj, h1, h2⟩ := key (l.length - 1) (by omega)
  exact ⟨j, by omega, h1, fun h3 => h2 (by omega)⟩
theorem scan_is {l : List Report} (h : repB l = true) {k : Int} {j : Nat} (hj : j < l.length) (h1 : (l.getD j Report.zero).fAt ≤ k) (h2 : j + 1 < l.length → k < (l.getD (j + 1) Report.zero).fAt) : ∀ acc, scan l k acc = (l.getD j Report.zero).fValue := by
  have key : ∀ d i, i + d = j → ∀ acc, scan (l.drop i) k acc = (l.getD j Report.zero).fValue := by
    intro d
    induction d with
    | zero =>
      intro i hi acc
      have : i = j := by omega
      subst this
      rw [scan_step l i k acc hj h1, scan_stop l (i + 1) k _ h2]
    | succ d ih =>
      intro i hi acc
      have := rep_asc h j i (by omega) hj
      rw [scan_step l i k acc (by omega) (by omega)]
      exact ih (i + 1) (by omega) _
  intro acc
  have := key j 0 (by omega) acc
  simpa using this
theorem img_ok {l : List Report} {many : Int} (h : img l many ≠ []) : repB l = true ∧ (1 ≤ many ∧ many ≤ 20) ∧ img l many = imgTo l many.toNat ∧ ((img l many).length : Int) = many := by
  unfold img at h ⊢
  split at h
  · next hc =>
    have hc' := Bool.and_eq_true_iff.1 hc
    have hm := (inB_iff _ _ _).1 hc'.2
    rw [if_pos hc, imgTo_length]
    exact ⟨hc'.1, hm, rfl, by omega⟩
  · exact absurd rfl h
theorem imgTo_getD (l : List Report) {k m : Nat} (h : k < m) : (imgTo l m).getD k 0 = scan l k 0 := by simp [imgTo, h]
/-- what FnImageOf says of the reports -/
theorem img_law {l : List Report} {many : Int} (h : img l many ≠ []) {k : Nat} (hk : (k : Int) < many) :
    (∀ j, j < l.length → (l.getD j Report.zero).fAt = k → (img l many).getD k 0 = (l.getD j Report.zero).fValue) ∧
    ((∀ j, j < l.length → (l.getD j Report.zero).fAt ≠ k) → 0 < k ∧ (img l many).getD k 0 = (img l many).getD (k - 1) 0) := by
  obtain ⟨hr, hm, he, _⟩ := img_ok h
  rw [he]
  refine ⟨fun j hj hat => ?_, fun hno => ?_⟩
  · rw [imgTo_getD l (by omega)]
    exact scan_is hr hj (by omega) (fun h2 => by have := rep_asc hr (j + 1) j (by omega) h2; omega) 0
  · have h0 : 0 < k := by
      rcases Nat.eq_zero_or_pos k with e | e
      · have := hno 0 (by have := rep_len hr; omega)
        rw [((repB_iff l).1 hr).2.2] at this
        subst e; simp at this
      · exact e
    refine ⟨h0, ?_⟩
    obtain ⟨j, hj, h1, h2⟩ := last_le hr (k := (k : Int)) (by omega)
    have hne := hno j hj
    rw [imgTo_getD l (by omega), imgTo_getD l (by omega), scan_is hr hj h1 h2 0]
    rw [scan_is hr hj (k := ((k - 1 : Nat) : Int)) (by omega) (fun h3 => by have := h2 h3; omega) 0]

/- the reports of samples -/
theorem repsTo_ext (xs : List Int) (band : Int) (k : Nat) : ∀ n, k ≤ n → ∃ t, repsTo xs band n = repsTo xs band k ++ t ∧ ∀ r ∈ t, (k : Int) ≤ r.fAt ∧ r.fAt < n := by
  intro n
  induction n with
  | zero => intro h; exact ⟨[], by rw [show k = 0 by omega]; simp, by simp⟩
  | succ n ih =>
    intro h
    by_cases hk : k = n + 1
    · exact ⟨[], by rw [hk]; simp, by simp⟩
    · obtain ⟨t, h1, h2⟩ := ih (by omega)
      by_cases hc : n = 0 ∨ band < far (xs.getD n 0) ((repsTo xs band n).getD ((repsTo xs band n).length - 1) Report.zero).fValue
      · refine ⟨t ++ [⟨n, xs.getD n 0⟩], by rw [repsTo_add xs band n hc, h1]; simp, fun r hr => ?_⟩
        rw [List.mem_append] at hr
        rcases hr with hr | hr
        · have := h2 r hr; omega
        · simp only [List.mem_singleton] at hr; subst hr; simp; omega
      · exact ⟨t, by rw [repsTo_same xs band n hc, h1], fun r hr => by have := h2 r hr; omega⟩
theorem repsTo_at (xs : List Int) (band : Int) (n : Nat) : ∀ r ∈ repsTo xs band n, 0 ≤ r.fAt ∧ r.fAt < n := by
  obtain ⟨t, h1, h2⟩ := repsTo_ext xs band 0 n (by omega)
  intro r hr
  rw [h1] at hr
  have := h2 r (by simpa [repsTo] using hr)
  simpa using this
theorem scan_split {k : Int} (l2 : List Report) (h2 : ∀ r ∈ l2, k < r.fAt) : ∀ (l1 : List Report) (acc : Int), (∀ r ∈ l1, r.fAt ≤ k) → scan (l1 ++ l2) k acc = l1.foldl (fun _ (r : Report) => r.fValue) acc
  | [], acc, _ => by
    cases l2 with
    | nil => rfl
    | cons r rs => rw [List.nil_append, scan, if_neg (by have := h2 r (by simp); omega)]; rfl
  | r :: rs, acc, h1 => by
    rw [List.cons_append, scan, if_pos (h1 r (by simp)), scan_split l2 h2 rs _ (fun s hs => h1 s (by simp [hs]))]; rfl
theorem fold_last (l : List Report) (acc : Int) (h : 0 < l.length) : l.foldl (fun _ (r : Report) => r.fValue) acc = (l.getD (l.length - 1) Report.zero).fValue := by
  obtain ⟨m, r, rfl⟩ : ∃ m r, l = m ++ [r] := ⟨l.dropLast, l.getLast (by intro e; subst e; simp at h), (List.dropLast_concat_getLast _).symm⟩
  simp [List.foldl_append]
/-- the image of the reports at k: what was reported last up to k -/
theorem scan_reps (xs : List Int) (band : Int) {k n : Nat} (hk : k < n) : scan (repsTo xs band n) k 0 = ((repsTo xs band (k + 1)).getD ((repsTo xs band (k + 1)).length - 1) Report.zero).fValue := by
  obtain ⟨t, h1, h2⟩ := repsTo_ext xs band (k + 1) n (by omega)
  rw [h1, scan_split t (fun r hr => by have := h2 r hr; omega) _ _ (fun r hr => by have := repsTo_at xs band (k + 1) r hr; omega), fold_last _ _ (repsTo_pos xs band _ (by omega))]
theorem far_self (a : Int) : far a a = 0 := by unfold far; split <;> omega
theorem far_nonneg (a b : Int) : 0 ≤ far a b := by unfold far; split <;> omega
theorem reps_near (xs : List Int) (band : Int) (hb : 0 ≤ band) (k : Nat) : far (xs.getD k 0) ((repsTo xs band (k + 1)).getD ((repsTo xs band (k + 1)).length - 1) Report.zero).fValue ≤ band := by
  by_cases hc : k = 0 ∨ band < far (xs.getD k 0) ((repsTo xs band k).getD ((repsTo xs band k).length - 1) Report.zero).fValue
  · rw [repsTo_add xs band k hc]; simp only [List.length_append, List.length_singleton, Nat.add_sub_cancel]
    have : (repsTo xs band k ++ [(⟨k, xs.getD k 0⟩ : Report)]).getD (repsTo xs band k).length Report.zero = ⟨k, xs.getD k 0⟩ := by simp
    rw [this, far_self]; exact hb
  · rw [repsTo_same xs band k hc]; omega
theorem repsTo_pair (xs : List Int) (band : Int) : ∀ n, (repsTo xs band n).Pairwise (fun a b => a.fAt < b.fAt)
  | 0 => by simp [repsTo]
  | n + 1 => by
    rw [repsTo]; split
    · rw [List.pairwise_append]
      refine ⟨repsTo_pair xs band n, by simp, fun a ha b hb => ?_⟩
      simp only [List.mem_singleton] at hb; subst hb
      exact (repsTo_at xs band n a ha).2
    · exact repsTo_pair xs band n
theorem reps_valid {xs : List Int} (band : Int) (h : smpB xs = true) (h0 : 0 < xs.length) : repB (repsTo xs band xs.length) = true := by
  rw [repB_iff]
  have h20 := smp_len h
  have hp := repsTo_pair xs band xs.length
  rw [List.pairwise_iff_getElem] at hp
  refine ⟨fun k hk => ?_, ⟨repsTo_pos xs band _ h0, by have := repsTo_length xs band xs.length; omega⟩, ?_⟩
  · have e : (repsTo xs band xs.length).getD k Report.zero = (repsTo xs band xs.length)[k] := by simp [hk]
    have hm := List.getElem_mem hk
    have h1 := repsTo_val band h _ (Nat.le_refl _) _ hm
    have h2 := repsTo_at xs band _ _ hm
    rw [e]
    refine ⟨⟨h1, by omega⟩, ?_⟩
    rcases Nat.eq_zero_or_pos k with e0 | e0
    · exact .inl e0
    · right
      have e' : (repsTo xs band xs.length).getD (k - 1) Report.zero = (repsTo xs band xs.length)[k - 1] := by simp [show k - 1 < (repsTo xs band xs.length).length by omega]
      rw [e']
      exact hp (k - 1) k (by omega) hk (by omega)
  · obtain ⟨t, h1, _⟩ := repsTo_ext xs band 1 xs.length (by omega)
    rw [h1, repsTo_add xs band 0 (.inl rfl)]
    simp [repsTo]
/-- two reports that follow each other differ by more than the band -/
theorem reps_far (xs : List Int) (band : Int) : ∀ n i, 0 < i → i < (repsTo xs band n).length → band < far ((repsTo xs band n).getD i Report.zero).fValue ((repsTo xs band n).getD (i - 1) Report.zero).fValue
  | 0, i, _, h => by simp [repsTo] at h
  | n + 1, i, h0, h => by
    by_cases hc : n = 0 ∨ band < far (xs.getD n 0) ((repsTo xs band n).getD ((repsTo xs band n).length - 1) Report.zero).fValue
    · rw [repsTo_add xs band n hc] at h ⊢
      simp only [List.length_append, List.length_singleton] at h
      by_cases hi : i < (repsTo xs band n).length
      · have := reps_far xs band n i h0 hi
        rw [getD_app hi, getD_app (k := i - 1) (by omega)]; exact this
      · have e : i = (repsTo xs band n).length := by omega
        rcases hc with hc | hc
        · subst hc; simp [repsTo] at e; omega
        · rw [getD_app (k := i - 1) (by omega), e]
          simpa using hc
    · rw [repsTo_same xs band n hc] at h ⊢
      exact reps_far xs band n i h0 h
theorem repsTo_take (xs : List Int) (band : Int) (m : Nat) : ∀ k, k ≤ m → repsTo (xs.take m) band k = repsTo xs band k
  | 0, _ => rfl
  | k + 1, h => by
    have e : (xs.take m).getD k 0 = xs.getD k 0 := by simp [List.getD_eq_getElem?_getD, show k < m by omega]
    rw [repsTo, repsTo, repsTo_take xs band m k (by omega), e]
theorem gap_le (xs im : List Int) (b : Int) (hb : 0 ≤ b) : ∀ n, (∀ k, k < n → far (xs.getD k 0) (im.getD k 0) ≤ b) → gapTo xs im n ≤ b
  | 0, _ => hb
  | n + 1, h => by
    rw [gapTo]; split
    · exact h n (by omega)
    · exact gap_le xs im b hb n (fun k hk => h k (by omega))
theorem gap_nonneg (xs im : List Int) : ∀ n, 0 ≤ gapTo xs im n
  | 0 => by simp [gapTo]
  | n + 1 => by
    rw [gapTo]; split
    · exact far_nonneg _ _
    · exact gap_nonneg xs im n
theorem gap_ge (xs im : List Int) : ∀ n k, k < n → far (xs.getD k 0) (im.getD k 0) ≤ gapTo xs im n
  | 0, k, h => by omega
  | n + 1, k, h => by
    rw [gapTo]
    by_cases e : k = n
    · subst e; split <;> omega
    · have := gap_ge xs im n k (by omega)
      split <;> omega
theorem gap_some (xs im : List Int) : ∀ n, 0 < n → ∃ k, k < n ∧ far (xs.getD k 0) (im.getD k 0) = gapTo xs im n
  | 0, h => by omega
  | n + 1, _ => by
    rw [gapTo]; split
    · exact ⟨n, by omega, rfl⟩
    · next h =>
      rcases Nat.eq_zero_or_pos n with e | e
      · subst e; refine ⟨0, by omega, ?_⟩
        have := far_nonneg (xs.getD 0 0) (im.getD 0 0)
        simp only [gapTo] at h ⊢; omega
      · obtain ⟨k, hk, hg⟩ := gap_some xs im n e
        exact ⟨k, by omega, hg⟩
/-- what FnReportsOf says -/
theorem reps_law (xs : List Int) (band : Int) : reps xs band = [] ∨ (0 < xs.length ∧ xs.length ≤ 20 ∧ (0 ≤ band ∧ band ≤ 999) ∧ 0 < (reps xs band).length ∧ (reps xs band).length ≤ 20 ∧ repB (reps xs band) = true ∧ (∀ r ∈ reps xs band, 0 ≤ r.fValue ∧ r.fValue ≤ 999) ∧
    (∀ i, 0 < i → i < (reps xs band).length → band < far ((reps xs band).getD i Report.zero).fValue ((reps xs band).getD (i - 1) Report.zero).fValue) ∧
    (0 ≤ wgap xs (reps xs band) ∧ wgap xs (reps xs band) ≤ band) ∧ (reps (xs.take (xs.length - 1)) band).length ≤ (reps xs band).length ∧ (reps xs band).take (reps (xs.take (xs.length - 1)) band).length = reps (xs.take (xs.length - 1)) band) := by
  cases hs : smpB xs && inB band 0 999 with
  | false => left; rw [reps, hs]; rfl
  | true =>
    have hs1 := (Bool.and_eq_true_iff.1 hs).1
    have hb := (inB_iff _ _ _).1 (Bool.and_eq_true_iff.1 hs).2
    have e : reps xs band = repsTo xs band xs.length := by rw [reps, hs]; rfl
    rcases Nat.eq_zero_or_pos xs.length with h0 | h0
    · left; rw [e, h0]; rfl
    · right
      have hv := reps_valid band hs1 h0
      have h20 := smp_len hs1
      have hl := repsTo_length xs band xs.length
      have e1 : reps (xs.take (xs.length - 1)) band = repsTo xs band (xs.length - 1) := by
        rw [reps, smp_take hs1, (Bool.and_eq_true_iff.1 hs).2]
        simp only [Bool.and_self, if_true]
        rw [show (xs.take (xs.length - 1)).length = xs.length - 1 by simp, repsTo_take xs band _ _ (Nat.le_refl _)]
      rw [e1, e]
      obtain ⟨t, h1, _⟩ := repsTo_ext xs band (xs.length - 1) xs.length (by omega)
      refine ⟨h0, h20, hb, repsTo_pos xs band _ h0, by omega, hv, repsTo_val band hs1 _ (Nat.le_refl _), reps_far xs band _, ?_, by rw [h1]; simp, by rw [h1]; simp⟩
      have hi := img_len hs1 hv
      have hi2 : img (repsTo xs band xs.length) xs.length = imgTo (repsTo xs band xs.length) xs.length := by
        rw [img, hv, (inB_iff _ _ _).2 (by omega)]; simp
      have hw : wgap xs (repsTo xs band xs.length) = gapTo xs (img (repsTo xs band xs.length) xs.length) xs.length := by
        rw [wgap, hs1, hv, hi]; rfl
      rw [hw]
      refine ⟨gap_nonneg _ _ _, gap_le _ _ _ hb.1 _ fun k hk => ?_⟩
      rw [hi2, imgTo_getD _ hk, scan_reps xs band hk]
      exact reps_near xs band hb.1 k
/-- reports with a band of 0 lead to the same image -/
theorem img_again {xs : List Int} (h : smpB xs = true) (h0 : 0 < xs.length) : img (reps xs 0) xs.length = xs := by
  have e : reps xs 0 = repsTo xs 0 xs.length := by rw [reps, h]; rfl
  have hv := reps_valid 0 h h0
  have h20 := smp_len h
  rw [e, img, hv, (inB_iff _ _ _).2 (by omega)]
  simp only [Bool.and_self, if_true, Int.toNat_natCast]
  apply List.ext_getElem
  · exact imgTo_length _ _
  · intro k h1 h2
    have := imgTo_getD (repsTo xs 0 xs.length) (k := k) (m := xs.length) h2
    rw [scan_reps xs 0 h2] at this
    have hn := reps_near xs 0 (by omega) k
    have hz : (imgTo (repsTo xs 0 xs.length) xs.length).getD k 0 = (imgTo (repsTo xs 0 xs.length) xs.length)[k] := by simp [h1]
    have hx : xs.getD k 0 = xs[k] := by simp [h2]
    rw [← hz, this, ← hx]
    unfold far at hn
    split at hn <;> omega
theorem img_smp {l : List Report} {many : Int} (h : img l many ≠ []) : smpB (img l many) = true := by
  obtain ⟨hr, hm, he, hl⟩ := img_ok h
  simp only [smpB, Bool.and_eq_true, List.all_eq_true, decide_eq_true_eq, inB_iff]
  refine ⟨fun x hx => ?_, by omega⟩
  obtain ⟨i, hi, rfl⟩ := List.getElem_of_mem hx
  have := img_val hr many hi
  simpa [hi] using this
/-- what FnWorstGap says -/
theorem gap_law (xs : List Int) (l : List Report) : wgap xs l = -1 ∨ (0 ≤ wgap xs l ∧ wgap xs l ≤ 999 ∧ xs.length ≤ 20 ∧ (img l xs.length).length = xs.length ∧ (∀ k, k < xs.length → (0 ≤ xs.getD k 0 ∧ xs.getD k 0 ≤ 999) ∧ (0 ≤ (img l xs.length).getD k 0 ∧ (img l xs.length).getD k 0 ≤ 999) ∧ far (xs.getD k 0) ((img l xs.length).getD k 0) ≤ wgap xs l) ∧ (0 < xs.length → ∃ k, k < xs.length ∧ far (xs.getD k 0) ((img l xs.length).getD k 0) = wgap xs l)) := by
  cases hs : smpB xs && repB l with
  | false => left; rw [wgap, hs]; rfl
  | true =>
    right
    have hs1 := (Bool.and_eq_true_iff.1 hs).1
    have hs2 := (Bool.and_eq_true_iff.1 hs).2
    have hi := img_len hs1 hs2
    have hw : wgap xs l = gapTo xs (img l xs.length) xs.length := by rw [wgap, hs, hi]; rfl
    have hx : ∀ k, k < xs.length → (0 ≤ xs.getD k 0 ∧ xs.getD k 0 ≤ 999) ∧ (0 ≤ (img l xs.length).getD k 0 ∧ (img l xs.length).getD k 0 ≤ 999) := fun k hk => ⟨smp_val hs1 hk, img_val hs2 _ (by omega)⟩
    rw [hw]
    refine ⟨gap_nonneg _ _ _, gap_le _ _ _ (by omega) _ (fun k hk => ?_), smp_len hs1, hi, fun k hk => ⟨(hx k hk).1, (hx k hk).2, gap_ge _ _ _ k hk⟩, gap_some _ _ _⟩
    have := hx k hk
    unfold far; split <;> omega
end Go.Proofs.YtanogghchmjkgaaDoor
