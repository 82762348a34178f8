/- The given statement Rows.FnExactPollValidSaid: for every input the law laws.FnExactPollValid returns true, and its arguments read afterwards as before. No condition. -/
import Derived.Test.YthekihggedgofaaRows
import Derived.Test.YthekihggedgofaaExPV
import Derived.Test.YthekihggedgofaaFr
import Derived.ShutString
import Derived.Test.YthekihggedgofaaFrS
namespace Go.Proofs.Ythekihggedgofaa.exPV
open Go.ChangeShapes Go.WideShapes Go.ChangeAt Go.RowKit Go.Proofs.Ythekihggedgofaa
set_option linter.unusedVariables false

theorem own : ownKnob Try.prog.godebug = none := by kernel_rfl
theorem laidOut : laidOutB Try.prog = true := by kernel_rfl

set_option maxRecDepth 100000 in
theorem lifted (os : Os) (started : os.Started) (H : Type) (enc : TypeId × Value → H) :
    ReturnsInHanded {} Try.checked os 3 .any (Rows.fnExactPollValidSpec.pre6 enc Try.prog Try.f3 Rows.fnExactPollValidRow.domain false) (Rows.fnExactPollValidSpec.post enc Try.prog Try.f3 false true false false) := by
  refine returnsInHanded_of_change (C := Try.checked) own started (by kernel_rfl) Try.func3
    (ChangeSpec.witness6 (enc := enc) (C := Try.checked) false ⟨#[], #[.agg #[.int .i64 0, .slice none 0 0, .int .i64 0, .slice none 0 0, .int .i64 0, .int .i64 0, .int .i64 0, .int .i64 0]], []⟩ 8 (by kernel_rfl) (by kernel_rfl) (by kernel_rfl) (by kernel_rfl)) ?_
  intro W base args ds gs before hval0 hW hcnd _
  have hval : ∀ (j : Nat) t v, Try.f3.params[j]? = some t → args[j]? = some v → Value.okWide Try.prog W .any base t v := hval0
  have hW' := hW
  obtain ⟨p, q, hA0, hV, rfl, hfz, hnd⟩ := hW
  have hA : DataW.TrodAll enc Try.prog W 0 (fun _ => true) true Try.f3.params.toList args.toList ds p := hA0
  rw [Try.params3] at hA hval
  obtain ⟨v0, vs0, d0, ds0, p0, q0, hargs, rfl, rfl, h0, r0⟩ := trodAll_cons hA
  obtain ⟨rfl, rfl, rfl⟩ := trodAll_nil r0
  obtain rfl : args = #[v0] := by cases args; simp_all
  obtain ⟨rfl, rfl⟩ := trodVars_none hV
  have k0 := h0
  have lt0 : ∀ x ∈ p0, x.block < W.heap.size := by obtain ⟨m, hm⟩ := k0; exact DataW.trod_lt m _ _ _ hm
  obtain ⟨cs0, rfl, hz0, hfl0⟩ := open_aggN Try.underlying24 (by kernel_rfl) (by kernel_rfl) (hval 0 24 v0 rfl rfl) h0
  obtain ⟨c0_0, c0_1, c0_2, c0_3, c0_4, c0_5, c0_6, c0_7, rfl⟩ := array8 hz0
  obtain ⟨z0_0, rfl, _⟩ := field_int Try.underlying3 (hfl0 0 _ _ rfl rfl)
  obtain ⟨a0_1, len0_1, cap0_1, xs0_1, rfl, hn0_1, hm0_1, hr0_1, hc0_1⟩ := field_ints Try.underlying22 Try.underlying3 (by kernel_rfl) (hfl0 1 _ _ rfl rfl)
  obtain ⟨z0_2, rfl, _⟩ := field_int Try.underlying3 (hfl0 2 _ _ rfl rfl)
  obtain ⟨a0_3, len0_3, cap0_3, xs0_3, rfl, hn0_3, hm0_3, hr0_3, hc0_3⟩ := field_ints Try.underlying22 Try.underlying3 (by kernel_rfl) (hfl0 3 _ _ rfl rfl)
  obtain ⟨z0_4, rfl, _⟩ := field_int Try.underlying3 (hfl0 4 _ _ rfl rfl)
  obtain ⟨z0_5, rfl, _⟩ := field_int Try.underlying3 (hfl0 5 _ _ rfl rfl)
  obtain ⟨z0_6, rfl, _⟩ := field_int Try.underlying3 (hfl0 6 _ _ rfl rfl)
  obtain ⟨z0_7, rfl, _⟩ := field_int Try.underlying3 (hfl0 7 _ _ rfl rfl)
  clear hA0 hval0
  refine (walk W z0_0 a0_1 len0_1 cap0_1 xs0_1 hn0_1 hm0_1 hr0_1 z0_2 a0_3 len0_3 cap0_3 xs0_3 hn0_3 hm0_3 hr0_3 z0_4 z0_5 z0_6 z0_7).mono fun e W' ⟨he, bel⟩ => ?_
  subst he
  exact ⟨_, rfl, _, _, _, [], _, [], hW', trodAll_mk1 (shut_bool Try.underlying4 _), (trodAll_cons_mk (Below.trod laidOut (by kernel_rfl) (of_decide_eq_true (by kernel_rfl)) k0 bel lt0) trodAll_mk0), rfl, bel.frame _, fun h => by cases h⟩

theorem over : Rows.fnExactPollValidRow.holds Try.pinned (OpenSpec.ofChange Rows.fnExactPollValidSpec) :=
  OpenClaim.holds_of_wide 3 Try.f3 rfl rfl rfl rfl rfl rfl rfl ⟨rfl, rfl, rfl, rfl, rfl⟩ rfl rfl rfl rfl rfl (by kernel_rfl) Try.func3 (by kernel_rfl)
    (of_decide_eq_true (by kernel_rfl)) (by unfold Func.isWrapper; first | (rw [if_pos (by decide +kernel)]; kernel_rfl) | (rw [if_neg (by decide +kernel)]; exact ⟨rfl, rfl⟩))
    (fun os started H enc _ => lifted os started H enc)

/-- The statement. -/
theorem proved : Rows.FnExactPollValidSaid := over
#print axioms proved
end Go.Proofs.Ythekihggedgofaa.exPV
