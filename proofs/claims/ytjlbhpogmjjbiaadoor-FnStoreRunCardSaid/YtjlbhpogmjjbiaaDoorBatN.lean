/- Small laws of plans and of integers. No statement is proved here. -/
import Derived.Test.YtjlbhpogmjjbiaaDoorBatM
namespace Go.Proofs.YtjlbhpogmjjbiaaDoor
theorem plan_le (s r l pk : Int) (xs : List Int) : ((planV s r l pk xs).getD []).length ≤ 1048576 := by
  cases h : planV s r l pk xs with
  | none => simp
  | some ts =>
    unfold planV at h
    split at h
    · rename_i hc
      simp only [Bool.and_eq_true, decide_eq_true_eq] at hc
      have a := bat_of hc.1.1
      have := (planL_ok a.2.1.1 a.2.2.1 a.2.2.2 h).1
      have := loads_len hc.1.2
      simp; omega
    · cases h
theorem bat_edge {s r l : Int} (h : batB s r l = true) : batB s r 0 = true ∧ batB s r (s + 1) = false := by
  simp only [batB, Bool.and_eq_true, inB_iff] at h
  refine ⟨by simp only [batB, Bool.and_eq_true, inB_iff]; omega, ?_⟩
  rw [batB, (inB_not (s + 1) 0 s).2 (by omega)]; simp
/-- what FnPeakPlan says of a plan that was found -/
theorem plan_law (s r l p : Int) (xs : List Int) : ∀ ts, planV s r l p xs = some ts → (0 ≤ peakV s r l xs ts) ∧ peakV s r l xs ts ≤ p ∧ (planV s r l (p + 1) xs).isSome = true := by
  intro ts h
  have hm : (planV s r l (p + 1) xs).isSome = true := planV_more (by rw [h]; rfl)
  unfold planV at h
  split at h
  · rename_i hc
    simp only [Bool.and_eq_true, decide_eq_true_eq] at hc
    have a := bat_of hc.1.1
    obtain ⟨h1, h2, h3⟩ := planL_ok a.2.1.1 a.2.2.1 a.2.2.2 h
    have h12 := loads_len hc.1.2
    have hp : peakV s r l xs ts = peakL 0 xs ts := peakV_ok (by rw [stAll_ok hc.1.1 (by omega)]; exact h2) hc.1.2 h1.symm
    refine ⟨by rw [hp]; exact peakL_ge, ?_, hm⟩
    rw [hp]
    exact peakL_le hc.2 fun k hk _ => h3 k hk
  · cases h
/-- what FnPeakOf says of a peak -/
theorem peak_law (s r l : Int) (xs ys : List Int) : peakV s r l xs ys = -1 ∨ (0 ≤ peakV s r l xs ys ∧ xs.length = ys.length ∧ xs.length ≤ 12 ∧
    (∀ k, k < xs.length → (-2000 ≤ xs.getD k 0 + ys.getD k 0 ∧ xs.getD k 0 + ys.getD k 0 ≤ peakV s r l xs ys)) ∧
    (peakV s r l xs ys == 0 || (List.range xs.length).any fun k => xs.getD k 0 + ys.getD k 0 == peakV s r l xs ys) = true) := by
  cases hc : ((stAll s r l ys).isSome && loadsB xs && decide (xs.length = ys.length)) with
  | false => exact .inl (peakV_no hc)
  | true =>
    simp only [Bool.and_eq_true, decide_eq_true_eq] at hc
    obtain ⟨⟨h1, h2⟩, h3⟩ := hc
    have e : peakV s r l xs ys = peakL 0 xs ys := peakV_ok h1 h2 h3
    obtain ⟨_, _, hy⟩ := stAll_each h1
    rw [e]
    refine .inr ⟨peakL_ge, h3, loads_len h2, fun k hk => ⟨?_, peakL_each k hk (by omega)⟩, ?_⟩
    · have := loads_each h2 hk; have := hy k (by omega); omega
    · rcases peakL_some (xs := xs) (ys := ys) (p := 0) with h | ⟨k, h1, h2, h3⟩
      · rw [h]; rfl
      · rw [Bool.or_eq_true]; right
        rw [List.any_eq_true]
        exact ⟨k, by simpa using h1, by simpa using h3⟩
theorem any_range_succ {p : Nat → Bool} {k : Nat} : (List.range (k + 1)).any p = ((List.range k).any p || p k) := by
  rw [List.range_succ, List.any_append]; simp
theorem peak_bd (s r l : Int) (xs ys : List Int) : peakV s r l xs ys ≤ 2000 := by
  cases hc : ((stAll s r l ys).isSome && loadsB xs && decide (xs.length = ys.length)) with
  | false => rw [peakV_no hc]; omega
  | true =>
    simp only [Bool.and_eq_true, decide_eq_true_eq] at hc
    obtain ⟨⟨h1, h2⟩, h3⟩ := hc
    obtain ⟨_, _, hy⟩ := stAll_each h1
    rw [peakV_ok h1 h2 h3]
    exact peakL_le (by omega) fun k hk hk' => by have := loads_each h2 hk; have := hy k hk'; omega
/-- what FnLeastPeak says -/
theorem least_law1 (s r l : Int) (xs ys : List Int) (h : 0 ≤ peakV s r l xs ys) : leastV s r l xs ≤ peakV s r l xs ys := by
  cases hc : ((stAll s r l ys).isSome && loadsB xs && decide (xs.length = ys.length)) with
  | false => rw [peakV_no hc] at h; omega
  | true =>
    simp only [Bool.and_eq_true, decide_eq_true_eq] at hc
    obtain ⟨⟨h1, h2⟩, h3⟩ := hc
    rw [peakV_ok h1 h2 h3]
    obtain ⟨hb, hl, _⟩ := stAll_each h1
    rw [stAll_ok hb hl] at h1
    exact least_le hb h2 h3 h1
theorem least_law2 (s r l : Int) (xs : List Int) : leastV s r l xs = -1 ∨ (0 ≤ leastV s r l xs ∧ leastV s r l xs ≤ 1000 ∧ (planV s r l (leastV s r l xs) xs).isSome = true ∧ (planV s r l (leastV s r l xs - 1) xs).isSome = false) := by
  cases hc : (batB s r l && loadsB xs) with
  | false => exact .inl (leastV_bad hc)
  | true =>
    simp only [Bool.and_eq_true] at hc
    obtain ⟨h1, h2⟩ := hc
    obtain ⟨a1, a2, a3⟩ := leastN_spec h1 h2
    rw [leastV_ok h1 h2]
    refine .inr ⟨by omega, by omega, by rw [planN h1 h2]; exact a2, ?_⟩
    rcases Nat.eq_zero_or_pos (leastN s r l xs) with e | e
    · rw [e, planV_bad (by simp)]; rfl
    · have : ((leastN s r l xs : Int) - 1) = ((leastN s r l xs - 1 : Nat) : Int) := by omega
      rw [this, planN h1 h2]; exact a3 _ (by omega)
theorem i64_wf {z : Int} (h : (Lit.int .i64 z).wf = true) : -9223372036854775808 ≤ z ∧ z ≤ 9223372036854775807 := by
  rcases Int.lt_or_le z (-9223372036854775808) with g | g
  · exact absurd h (by simp [Lit.wf, IntKind.min, IntKind.max, IntKind.signed, IntKind.bits]; omega)
  · refine ⟨g, ?_⟩
    rcases Int.lt_or_le 9223372036854775807 z with g' | g'
    · exact absurd h (by simp [Lit.wf, IntKind.min, IntKind.max, IntKind.signed, IntKind.bits]; omega)
    · exact g'
end Go.Proofs.YtjlbhpogmjjbiaaDoor
