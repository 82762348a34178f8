/- Contracts of EntryLess, of the reference and of the program. No statement is proved here. -/
import Derived.Test.YtdlphgknplomkaaDoorStEntry
import Derived.Test.YtdlphgknplomkaaDoorCmp
namespace Go.Proofs.YtdlphgknplomkaaDoor
open Go.RowKit

/-- does an entry come before another one -/
def lessB (a b : Entry) : Bool := decide (a.fTime < b.fTime) || (a.fTime == b.fTime && (decide (a.fWho < b.fWho) || (a.fWho == b.fWho && decide (a.fNumber < b.fNumber))))
def cmpE (a b : Entry) : Int := orI [c3 a.fTime b.fTime, c3 a.fWho b.fWho, c3 a.fNumber b.fNumber]
theorem c3_cases (x y : Int) : (c3 x y = -1 ∧ x < y) ∨ (c3 x y = 0 ∧ x = y) ∨ (c3 x y = 1 ∧ y < x) := by
  unfold c3; split
  · exact .inl ⟨rfl, by assumption⟩
  · split
    · exact .inr (.inr ⟨rfl, by assumption⟩)
    · exact .inr (.inl ⟨rfl, by omega⟩)
theorem cmpE_less (a b : Entry) : decide (cmpE a b < 0) = lessB a b := by
  unfold cmpE lessB
  rcases c3_cases a.fTime b.fTime with ⟨e, h⟩ | ⟨e, h⟩ | ⟨e, h⟩
  · rw [e, decide_eq_true h, Bool.true_or]; rfl
  · rw [e, decide_eq_false (show ¬ a.fTime < b.fTime by omega), beq_iff_eq.2 h, Bool.false_or, Bool.true_and]
    rcases c3_cases a.fWho b.fWho with ⟨e, h⟩ | ⟨e, h⟩ | ⟨e, h⟩
    · rw [e, decide_eq_true h, Bool.true_or]; rfl
    · rw [e, decide_eq_false (show ¬ a.fWho < b.fWho by omega), beq_iff_eq.2 h, Bool.false_or, Bool.true_and]
      rcases c3_cases a.fNumber b.fNumber with ⟨e', h'⟩ | ⟨e', h'⟩ | ⟨e', h'⟩
      · rw [e', decide_eq_true h']; rfl
      · rw [e', decide_eq_false (show ¬ a.fNumber < b.fNumber by omega)]; rfl
      · rw [e', decide_eq_false (show ¬ a.fNumber < b.fNumber by omega)]; rfl
    · rw [e, decide_eq_false (show ¬ a.fWho < b.fWho by omega), beq_eq_false_iff_ne.2 (show a.fWho ≠ b.fWho by omega)]; rfl
  · rw [e, decide_eq_false (show ¬ a.fTime < b.fTime by omega), beq_eq_false_iff_ne.2 (show a.fTime ≠ b.fTime by omega)]; rfl

set_option maxHeartbeats 400000 in
theorem specEL (a b : Entry) (w : World) : Calls Tryd.prog 27 #[a.val, b.val] w fun e w' => e = .returned (.bool (lessB a b)) ∧ Below w.heap.size w w' := by
  obtain ⟨t, u, v, x⟩ := a
  obtain ⟨t', u', v', x'⟩ := b
  unfold Entry.val lessB
  cases h1 : (t == t') with
  | false =>
    have h1' : (t != t') = true := by simpa using h1
    have hr : (decide (t < t') || (false && (decide (u < u') || (u == u' && decide (v < v'))))) = decide (t < t') := by simp
    rw [hr]; clear hr
    go_enter Tryd.func27, Tryd.ntmps27
    go_wp2_with fail
    go_ret
    exact ⟨rfl, allocB (allocB (Below.refl _ _) _) _⟩
  | true =>
    have e : t = t' := by simpa using h1
    subst e
    have h1' : (t != t) = false := by simp
    cases h2 : (u == u') with
    | false =>
      have h2' : (u != u') = true := by simpa using h2
      have hr : (decide (t < t) || (true && (decide (u < u') || (false && decide (v < v'))))) = decide (u < u') := by simp
      simp only [hr]; clear hr
      go_enter Tryd.func27, Tryd.ntmps27
      go_wp2_with fail
      go_ret
      exact ⟨rfl, allocB (allocB (Below.refl _ _) _) _⟩
    | true =>
      have e : u = u' := by simpa using h2
      subst e
      have h2' : (u != u) = false := by simp
      have hr : (decide (t < t) || (true && (decide (u < u) || (true && decide (v < v'))))) = decide (v < v') := by simp
      simp only [hr]; clear hr
      go_enter Tryd.func27, Tryd.ntmps27
      go_wp2_with fail
      go_ret
      exact ⟨rfl, allocB (allocB (Below.refl _ _) _) _⟩

set_option maxRecDepth 4000 in
set_option maxHeartbeats 1000000 in
theorem compareE (a b : Entry) (w : World) : Calls Tryd.prog 41 #[a.val, b.val] w fun e w' => e = .returned (.int .i64 (cmpE a b)) ∧ Below w.heap.size w w' := by
  obtain ⟨t, u, v, x⟩ := a
  obtain ⟨t', u', v', x'⟩ := b
  unfold Entry.val
  go_enter Tryd.func41, Tryd.ntmps41
  go_wp2_with fail
  obtain ⟨q1, q2⟩ := two_boxes w #[.int .i64 t, .int .i64 u, .int .i64 v, .int .i64 x] #[.int .i64 t', .int .i64 u', .int .i64 v', .int .i64 x'] 25 25
  have r0 := (q1 0).trans (show (#[.int .i64 t, .int .i64 u, .int .i64 v, .int .i64 x] : Array Value)[0]? = some (.int .i64 t) from rfl)
  have s0 := (q2 0).trans (show (#[.int .i64 t', .int .i64 u', .int .i64 v', .int .i64 x'] : Array Value)[0]? = some (.int .i64 t') from rfl)
  have r1 := (q1 1).trans (show (#[.int .i64 t, .int .i64 u, .int .i64 v, .int .i64 x] : Array Value)[1]? = some (.int .i64 u) from rfl)
  have s1 := (q2 1).trans (show (#[.int .i64 t', .int .i64 u', .int .i64 v', .int .i64 x'] : Array Value)[1]? = some (.int .i64 u') from rfl)
  have r2 := (q1 2).trans (show (#[.int .i64 t, .int .i64 u, .int .i64 v, .int .i64 x] : Array Value)[2]? = some (.int .i64 v) from rfl)
  have s2 := (q2 2).trans (show (#[.int .i64 t', .int .i64 u', .int .i64 v', .int .i64 x'] : Array Value)[2]? = some (.int .i64 v') from rfl)
  have hb0 := allocB (allocB (Below.refl w.heap.size w) (Obj.cells #[.int .i64 t, .int .i64 u, .int .i64 v, .int .i64 x] 25)) (Obj.cells #[.int .i64 t', .int .i64 u', .int .i64 v', .int .i64 x'] 25)
  clear q1 q2
  generalize (w.alloc (Obj.cells #[.int .i64 t, .int .i64 u, .int .i64 v, .int .i64 x] 25)).alloc (Obj.cells #[.int .i64 t', .int .i64 u', .int .i64 v', .int .i64 x'] 25) = w2 at *
  go_still_tail 15, (by kernel_rfl)
  still_call (still_of (compare_any _ _ _))
  repeat still_step
  still_call (still_of (compare_any _ _ _))
  repeat still_step
  still_call (still_of (compare_any _ _ _))
  refine wpStill_nil ?_
  change wpList _ _ _ _ _ w2.drew
  clear r0 r1 r2 s0 s1 s2
  replace hb0 := drew1B hb0
  generalize w2.drew = w3 at *
  go_wp2_with fail
  refine (or_any _ _ _ [c3 t t', c3 u u', c3 v v'] _ rfl (by simp) (rd_new w3 #[.int .i64 (c3 t t'), .int .i64 (c3 u u'), .int .i64 (c3 v v')] 3)).mono ?_
  rintro e w' ⟨rfl, rfl⟩
  go_wp2_with fail
  go_ret
  exact ⟨rfl, allocB hb0 _⟩

set_option maxHeartbeats 400000 in
theorem implEL (a b : Entry) (w : World) : Calls Tryd.prog 26 #[a.val, b.val] w fun e w' => e = .returned (.bool (lessB a b)) ∧ Below w.heap.size w w' := by
  rw [← cmpE_less]
  obtain ⟨t, u, v, x⟩ := a
  obtain ⟨t', u', v', x'⟩ := b
  unfold Entry.val
  go_enter Tryd.func26, Tryd.ntmps26
  go_wp2_with fail
  refine (compareE ⟨t, u, v, x⟩ ⟨t', u', v', x'⟩ _).mono ?_
  rintro e w1 ⟨rfl, hb⟩
  go_wp2_with fail
  go_ret
  exact ⟨rfl, seqB (allocB (allocB (Below.refl _ _) _) _) hb⟩
end Go.Proofs.YtdlphgknplomkaaDoor
