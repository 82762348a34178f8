/- The given statement Rows.FnExactLogMergeSaid: for every input the law laws.FnExactLogMerge returns true, and its arguments read afterwards as before. No condition. -/
import Derived.Test.YtdlphgknplomkaaRows
import Derived.Test.YtdlphgknplomkaaExLM
import Derived.Test.YtdlphgknplomkaaFr
import Derived.ShutString
namespace Go.Proofs.Ytdlphgknplomkaa.exLM
open Go.ChangeShapes Go.WideShapes Go.ChangeAt Go.RowKit Go.Proofs.Ytdlphgknplomkaa
set_option linter.unusedVariables false

theorem own : ownKnob Try.prog.godebug = none := by kernel_rfl
theorem allInt4 {f0 f1 f2 f3 : Field} (h0 : Try.prog.underlying f0.type = some (.int .i64)) (h1 : Try.prog.underlying f1.type = some (.int .i64)) (h2 : Try.prog.underlying f2.type = some (.int .i64)) (h3 : Try.prog.underlying f3.type = some (.int .i64)) : ∀ (j : Nat) (f : Field), (#[f0, f1, f2, f3] : Array Field)[j]? = some f → Try.prog.underlying f.type = some (.int .i64) := by
  intro j f h
  match j, h with
  | 0, h => simp at h; subst h; exact h0
  | 1, h => simp at h; subst h; exact h1
  | 2, h => simp at h; subst h; exact h2
  | 3, h => simp at h; subst h; exact h3
  | n + 4, h => simp at h
theorem laidOut : laidOutB Try.prog = true := by kernel_rfl

set_option maxRecDepth 100000 in
theorem lifted (os : Os) (started : os.Started) (H : Type) (enc : TypeId × Value → H) :
    ReturnsInHanded {} Try.checked os 4 .any (Rows.fnExactLogMergeSpec.pre6 enc Try.prog Try.f4 Rows.fnExactLogMergeRow.domain false) (Rows.fnExactLogMergeSpec.post enc Try.prog Try.f4 false true false false) := by
  refine returnsInHanded_of_change (C := Try.checked) own started (by kernel_rfl) Try.func4
    (ChangeSpec.witness6 (enc := enc) (C := Try.checked) false ⟨#[], #[.slice none 0 0, .slice none 0 0], []⟩ 8 (by kernel_rfl) (by kernel_rfl) (by kernel_rfl) (by kernel_rfl)) ?_
  intro W base args ds gs before hval0 hW hcnd _
  have hval : ∀ (j : Nat) t v, Try.f4.params[j]? = some t → args[j]? = some v → Value.okWide Try.prog W .any base t v := hval0
  have hW' := hW
  obtain ⟨p, q, hA0, hV, rfl, hfz, hnd⟩ := hW
  have hA : DataW.TrodAll enc Try.prog W 0 (fun _ => true) true Try.f4.params.toList args.toList ds p := hA0
  rw [Try.params4] at hA hval
  obtain ⟨v0, vs0, d0, ds0, p0, q0, hargs, rfl, rfl, h0, r0⟩ := trodAll_cons hA
  obtain ⟨v1, vs1, d1, ds1, p1, q1, rfl, rfl, rfl, h1, r1⟩ := trodAll_cons r0
  obtain ⟨rfl, rfl, rfl⟩ := trodAll_nil r1
  obtain rfl : args = #[v0, v1] := by cases args; simp_all
  obtain ⟨rfl, rfl⟩ := trodVars_none hV
  obtain ⟨a0, len0, cap0, rfl⟩ := okWide_slice Try.underlying22 (hval 0 22 v0 rfl rfl)
  have k0 := h0
  have lt0 : ∀ x ∈ p0, x.block < W.heap.size := by obtain ⟨m, hm⟩ := k0; exact DataW.trod_lt m _ _ _ hm
  obtain ⟨zs0, hz0, hm0, hr0, hw0⟩ := open_structS 4 Try.underlying22 Try.underlying24 rfl (by kernel_rfl) (by kernel_rfl) (allInt4 Try.underlying3 Try.underlying3 Try.underlying3 Try.underlying3) h0
  obtain ⟨xs0, hn0, hf0⟩ := unflatEntry _ _ hz0
  rw [← hf0] at hr0
  obtain ⟨a1, len1, cap1, rfl⟩ := okWide_slice Try.underlying22 (hval 1 22 v1 rfl rfl)
  have k1 := h1
  have lt1 : ∀ x ∈ p1, x.block < W.heap.size := by obtain ⟨m, hm⟩ := k1; exact DataW.trod_lt m _ _ _ hm
  obtain ⟨zs1, hz1, hm1, hr1, hw1⟩ := open_structS 4 Try.underlying22 Try.underlying24 rfl (by kernel_rfl) (by kernel_rfl) (allInt4 Try.underlying3 Try.underlying3 Try.underlying3 Try.underlying3) h1
  obtain ⟨xs1, hn1, hf1⟩ := unflatEntry _ _ hz1
  rw [← hf1] at hr1
  clear hA0 hval0
  refine (walk W a0 len0 cap0 xs0 hn0 hm0 hr0 a1 len1 cap1 xs1 hn1 hm1 hr1).mono fun e W' ⟨he, bel⟩ => ?_
  subst he
  exact ⟨_, rfl, _, _, _, [], _, [], hW', trodAll_mk1 (shut_bool Try.underlying4 _), (trodAll_cons_mk (Below.trod laidOut (by kernel_rfl) (of_decide_eq_true (by kernel_rfl)) k0 bel lt0) (trodAll_cons_mk (Below.trod laidOut (by kernel_rfl) (of_decide_eq_true (by kernel_rfl)) k1 bel lt1) trodAll_mk0)), rfl, bel.frame _, fun h => by cases h⟩

theorem over : Rows.fnExactLogMergeRow.holds Try.pinned (OpenSpec.ofChange Rows.fnExactLogMergeSpec) :=
  OpenClaim.holds_of_wide 4 Try.f4 rfl rfl rfl rfl rfl rfl rfl ⟨rfl, rfl, rfl, rfl, rfl⟩ rfl rfl rfl rfl rfl (by kernel_rfl) Try.func4 (by kernel_rfl)
    (of_decide_eq_true (by kernel_rfl)) (by unfold Func.isWrapper; first | (rw [if_pos (by decide +kernel)]; kernel_rfl) | (rw [if_neg (by decide +kernel)]; exact ⟨rfl, rfl⟩))
    (fun os started H enc _ => lifted os started H enc)

/-- The statement. -/
theorem proved : Rows.FnExactLogMergeSaid := over
#print axioms proved
end Go.Proofs.Ytdlphgknplomkaa.exLM
