/- Small laws of plans and of integers. No statement is proved here. -/
import Derived.Test.YtjlbhpogmjjbiaaDoorBatM
namespace Go.Proofs.YtjlbhpogmjjbiaaDoor
theorem plan_le (s r l pk : Int) (xs : List Int) : ((planV s r l pk xs).getD []).length ≤ 1048576 := by
  cases h : planV s r l pk xs with
  | none => simp
  | some ts =>
    unfold planV at h
    split at h
    · rename_i hc
      simp only [Bool.and_eq_true, decide_eq_true_eq] at hc
      have a := bat_of hc.1.1
      have := (planL_ok a.2.1.1 a.2.2.1 a.2.2.2 h).1
      have := loads_len hc.1.2
      simp; omega
    · cases h
theorem bat_edge {s r l : Int} (h : batB s r l = true) : batB s r 0 = true ∧ batB s r (s + 1) = false := by
  simp only [batB, Bool.and_eq_true, inB_iff] at h
  refine ⟨by simp only [batB, Bool.and_eq_true, inB_iff]; omega, ?_⟩
  rw [batB, (inB_not (s + 1) 0 s).2 (by omega)]; simp
/-- what FnPeakPlan says of a plan that was found -/
theorem plan_law (s r l p : Int) (xs : List Int) : ∀ ts, planV s r l p xs = some ts → (0 ≤ peakV s r l xs ts) ∧ peakV s r l xs ts ≤ p ∧ (planV s r l (p + 1) xs).isSome = true := by
  intro ts h
  have hm : (planV s r l (p + 1) xs).isSome = true := planV_more (by rw [h]; rfl)
  unfold planV at h
  split at h
  · rename_i hc
    simp only [Bool.and_eq_true, decide_eq_true_eq] at hc
    have a := bat_of hc.1.1
    obtain ⟨h1, h2, h3⟩ := planL_ok a.2.1.1 a.2.2.1 a.2.2.2 h
    have h12 := loads_len hc.1.2
    have hp : peakV s r l xs ts = peakL 0 xs ts := peakV_ok (by rw [stAll_ok hc.1.1 (by omega)]; exact h2) hc.1.2 h1.symm
    refine ⟨by rw [hp]; exact peakL_ge, ?_, hm⟩
    rw [hp]
    exact peakL_le hc.2 fun k hk _ => h3 k hk
  · cases h
theorem i64_wf {z : Int} (h : (Lit.int .i64 z).wf = true) : -9223372036854775808 ≤ z ∧ z ≤ 9223372036854775807 := by
  rcases Int.lt_or_le z (-9223372036854775808) with g | g
  · exact absurd h (by simp [Lit.wf, IntKind.min, IntKind.max, IntKind.signed, IntKind.bits]; omega)
  · refine ⟨g, ?_⟩
    rcases Int.lt_or_le 9223372036854775807 z with g' | g'
    · exact absurd h (by simp [Lit.wf, IntKind.min, IntKind.max, IntKind.signed, IntKind.bits]; omega)
    · exact g'
end Go.Proofs.YtjlbhpogmjjbiaaDoor
