/- The given statement Rows.FnExactEntryLessSaid: for every input the law laws.FnExactEntryLess returns true, and its arguments read afterwards as before. No condition. -/
import Derived.Test.YtmbbkehgdnfalaaRows
import Derived.Test.YtmbbkehgdnfalaaExEL
import Derived.Test.YtmbbkehgdnfalaaFr
import Derived.ShutString
namespace Go.Proofs.Ytmbbkehgdnfalaa.exEL
open Go.ChangeShapes Go.WideShapes Go.ChangeAt Go.RowKit Go.Proofs.Ytmbbkehgdnfalaa
set_option linter.unusedVariables false

theorem own : ownKnob Try.prog.godebug = none := by kernel_rfl
theorem laidOut : laidOutB Try.prog = true := by kernel_rfl

set_option maxRecDepth 100000 in
theorem lifted (os : Os) (started : os.Started) (H : Type) (enc : TypeId × Value → H) :
    ReturnsInHanded {} Try.checked os 3 .any (Rows.fnExactEntryLessSpec.pre6 enc Try.prog Try.f3 Rows.fnExactEntryLessRow.domain false) (Rows.fnExactEntryLessSpec.post enc Try.prog Try.f3 false true false false) := by
  refine returnsInHanded_of_change (C := Try.checked) own started (by kernel_rfl) Try.func3
    (ChangeSpec.witness6 (enc := enc) (C := Try.checked) false ⟨#[], #[.agg #[.int .i64 0, .int .i64 0, .int .i64 0, .int .i64 0], .agg #[.int .i64 0, .int .i64 0, .int .i64 0, .int .i64 0]], []⟩ 8 (by kernel_rfl) (by kernel_rfl) (by kernel_rfl) (by kernel_rfl)) ?_
  intro W base args ds gs before hval0 hW hcnd _
  have hval : ∀ (j : Nat) t v, Try.f3.params[j]? = some t → args[j]? = some v → Value.okWide Try.prog W .any base t v := hval0
  have hW' := hW
  obtain ⟨p, q, hA0, hV, rfl, hfz, hnd⟩ := hW
  have hA : DataW.TrodAll enc Try.prog W 0 (fun _ => true) true Try.f3.params.toList args.toList ds p := hA0
  rw [Try.params3] at hA hval
  obtain ⟨v0, vs0, d0, ds0, p0, q0, hargs, rfl, rfl, h0, r0⟩ := trodAll_cons hA
  obtain ⟨v1, vs1, d1, ds1, p1, q1, rfl, rfl, rfl, h1, r1⟩ := trodAll_cons r0
  obtain ⟨rfl, rfl, rfl⟩ := trodAll_nil r1
  obtain rfl : args = #[v0, v1] := by cases args; simp_all
  obtain ⟨rfl, rfl⟩ := trodVars_none hV
  have k0 := h0
  have lt0 : ∀ x ∈ p0, x.block < W.heap.size := by obtain ⟨m, hm⟩ := k0; exact DataW.trod_lt m _ _ _ hm
  obtain ⟨c0_0, c0_1, c0_2, c0_3, y0_0, y0_1, y0_2, y0_3, m0, rfl, rfl, hp0, hy0_0, hy0_1, hy0_2, hy0_3⟩ := Go.Joins.open_agg4 Try.underlying23 (by kernel_rfl) (by kernel_rfl) (hval 0 23 v0 rfl rfl) h0
  obtain ⟨z0_0, e0_0, _, _⟩ := DataW.trod_int Try.underlying3 hy0_0
  simp at e0_0; subst e0_0
  obtain ⟨z0_1, e0_1, _, _⟩ := DataW.trod_int Try.underlying3 hy0_1
  simp at e0_1; subst e0_1
  obtain ⟨z0_2, e0_2, _, _⟩ := DataW.trod_int Try.underlying3 hy0_2
  simp at e0_2; subst e0_2
  obtain ⟨z0_3, e0_3, _, _⟩ := DataW.trod_int Try.underlying3 hy0_3
  simp at e0_3; subst e0_3
  have k1 := h1
  have lt1 : ∀ x ∈ p1, x.block < W.heap.size := by obtain ⟨m, hm⟩ := k1; exact DataW.trod_lt m _ _ _ hm
  obtain ⟨c1_0, c1_1, c1_2, c1_3, y1_0, y1_1, y1_2, y1_3, m1, rfl, rfl, hp1, hy1_0, hy1_1, hy1_2, hy1_3⟩ := Go.Joins.open_agg4 Try.underlying23 (by kernel_rfl) (by kernel_rfl) (hval 1 23 v1 rfl rfl) h1
  obtain ⟨z1_0, e1_0, _, _⟩ := DataW.trod_int Try.underlying3 hy1_0
  simp at e1_0; subst e1_0
  obtain ⟨z1_1, e1_1, _, _⟩ := DataW.trod_int Try.underlying3 hy1_1
  simp at e1_1; subst e1_1
  obtain ⟨z1_2, e1_2, _, _⟩ := DataW.trod_int Try.underlying3 hy1_2
  simp at e1_2; subst e1_2
  obtain ⟨z1_3, e1_3, _, _⟩ := DataW.trod_int Try.underlying3 hy1_3
  simp at e1_3; subst e1_3
  clear hA0 hval0
  refine (walk W ⟨z0_0, z0_1, z0_2, z0_3⟩ ⟨z1_0, z1_1, z1_2, z1_3⟩).mono fun e W' ⟨he, bel⟩ => ?_
  subst he
  exact ⟨_, rfl, _, _, _, [], _, [], hW', trodAll_mk1 (shut_bool Try.underlying4 _), (trodAll_cons_mk (Below.trod laidOut (by kernel_rfl) (of_decide_eq_true (by kernel_rfl)) k0 bel lt0) (trodAll_cons_mk (Below.trod laidOut (by kernel_rfl) (of_decide_eq_true (by kernel_rfl)) k1 bel lt1) trodAll_mk0)), rfl, bel.frame _, fun h => by cases h⟩

theorem over : Rows.fnExactEntryLessRow.holds Try.pinned (OpenSpec.ofChange Rows.fnExactEntryLessSpec) :=
  OpenClaim.holds_of_wide 3 Try.f3 rfl rfl rfl rfl rfl rfl rfl ⟨rfl, rfl, rfl, rfl, rfl⟩ rfl rfl rfl rfl rfl (by kernel_rfl) Try.func3 (by kernel_rfl)
    (of_decide_eq_true (by kernel_rfl)) (by unfold Func.isWrapper; first | (rw [if_pos (by decide +kernel)]; kernel_rfl) | (rw [if_neg (by decide +kernel)]; exact ⟨rfl, rfl⟩))
    (fun os started H enc _ => lifted os started H enc)

/-- The statement. -/
theorem proved : Rows.FnExactEntryLessSaid := over
#print axioms proved
end Go.Proofs.Ytmbbkehgdnfalaa.exEL
