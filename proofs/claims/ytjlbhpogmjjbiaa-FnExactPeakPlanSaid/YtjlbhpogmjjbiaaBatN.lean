/- Small laws of plans and of integers. No statement is proved here. -/
import Derived.Test.YtjlbhpogmjjbiaaBatM
namespace Go.Proofs.Ytjlbhpogmjjbiaa
theorem plan_le (s r l pk : Int) (xs : List Int) : ((planV s r l pk xs).getD []).length ≤ 1048576 := by
  cases h : planV s r l pk xs with
  | none => simp
  | some ts =>
    unfold planV at h
    split at h
    · rename_i hc
      simp only [Bool.and_eq_true, decide_eq_true_eq] at hc
      have a := bat_of hc.1.1
      have := (planL_ok a.2.1.1 a.2.2.1 a.2.2.2 h).1
      have := loads_len hc.1.2
      simp; omega
    · cases h
theorem i64_wf {z : Int} (h : (Lit.int .i64 z).wf = true) : -9223372036854775808 ≤ z ∧ z ≤ 9223372036854775807 := by
  rcases Int.lt_or_le z (-9223372036854775808) with g | g
  · exact absurd h (by simp [Lit.wf, IntKind.min, IntKind.max, IntKind.signed, IntKind.bits]; omega)
  · refine ⟨g, ?_⟩
    rcases Int.lt_or_le 9223372036854775807 z with g' | g'
    · exact absurd h (by simp [Lit.wf, IntKind.min, IntKind.max, IntKind.signed, IntKind.bits]; omega)
    · exact g'
end Go.Proofs.Ytjlbhpogmjjbiaa
