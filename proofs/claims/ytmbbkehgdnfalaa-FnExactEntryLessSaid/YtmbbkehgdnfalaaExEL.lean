/- The walk of FnExactEntryLess: it returns true, and writes nothing that was there. -/
import Derived.Test.YtmbbkehgdnfalaaEnL
import Derived.Deep.RegionHeld3
namespace Go.Proofs.Ytmbbkehgdnfalaa.exEL
open Go.RowKit Go.Proofs.Ytmbbkehgdnfalaa

theorem cell_keep {w w' : World} {a : Addr} {v : Value} (h : w.cell? a = some v) (hb : Below w.heap.size w w') : w'.cell? a = some v :=
  (hb.cell (World.block_lt_of_cell? w _ h)).trans h

theorem toE (a b c d : Int) (w : World) : Calls Try.prog 10 #[.agg #[.int .i64 a, .int .i64 b, .int .i64 c, .int .i64 d]] w fun e w' => e = .returned (.agg #[.int .i64 a, .int .i64 b, .int .i64 c, .int .i64 d]) ∧ Below w.heap.size w w' := toEntry_any ⟨a, b, c, d⟩ w
theorem sEL (a b c d a' b' c' d' : Int) (w : World) : Calls Try.prog 9 #[.agg #[.int .i64 a, .int .i64 b, .int .i64 c, .int .i64 d], .agg #[.int .i64 a', .int .i64 b', .int .i64 c', .int .i64 d']] w fun e w' => e = .returned (.bool (lessB ⟨a, b, c, d⟩ ⟨a', b', c', d'⟩)) ∧ Below w.heap.size w w' := specEL ⟨a, b, c, d⟩ ⟨a', b', c', d'⟩ w
theorem iEL (a b c d a' b' c' d' : Int) (w : World) : Calls Try.prog 11 #[.agg #[.int .i64 a, .int .i64 b, .int .i64 c, .int .i64 d], .agg #[.int .i64 a', .int .i64 b', .int .i64 c', .int .i64 d']] w fun e w' => e = .returned (.bool (lessB ⟨a, b, c, d⟩ ⟨a', b', c', d'⟩)) ∧ Below w.heap.size w w' := implEL ⟨a, b, c, d⟩ ⟨a', b', c', d'⟩ w

set_option maxHeartbeats 2000000 in
theorem walk (w : World) (a b : Entry) :
    Calls Try.prog 3 #[a.val, b.val] w fun e w' => e = .returned (.bool true) ∧ Below w.heap.size w w' := by
  obtain ⟨t, u, v, x⟩ := a
  obtain ⟨t', u', v', x'⟩ := b
  unfold Entry.val
  go_enter Try.func3, Try.ntmps3
  go_wp2_with fail
  obtain ⟨q1, q2⟩ := two_boxes w #[.int .i64 t, .int .i64 u, .int .i64 v, .int .i64 x] #[.int .i64 t', .int .i64 u', .int .i64 v', .int .i64 x'] 23 23
  have r0 := (q1 0).trans (show (#[.int .i64 t, .int .i64 u, .int .i64 v, .int .i64 x] : Array Value)[0]? = some (.int .i64 t) from rfl)
  have r1 := (q1 1).trans (show (#[.int .i64 t, .int .i64 u, .int .i64 v, .int .i64 x] : Array Value)[1]? = some (.int .i64 u) from rfl)
  have r2 := (q1 2).trans (show (#[.int .i64 t, .int .i64 u, .int .i64 v, .int .i64 x] : Array Value)[2]? = some (.int .i64 v) from rfl)
  have r3 := (q1 3).trans (show (#[.int .i64 t, .int .i64 u, .int .i64 v, .int .i64 x] : Array Value)[3]? = some (.int .i64 x) from rfl)
  have s0 := (q2 0).trans (show (#[.int .i64 t', .int .i64 u', .int .i64 v', .int .i64 x'] : Array Value)[0]? = some (.int .i64 t') from rfl)
  have s1 := (q2 1).trans (show (#[.int .i64 t', .int .i64 u', .int .i64 v', .int .i64 x'] : Array Value)[1]? = some (.int .i64 u') from rfl)
  have s2 := (q2 2).trans (show (#[.int .i64 t', .int .i64 u', .int .i64 v', .int .i64 x'] : Array Value)[2]? = some (.int .i64 v') from rfl)
  have s3 := (q2 3).trans (show (#[.int .i64 t', .int .i64 u', .int .i64 v', .int .i64 x'] : Array Value)[3]? = some (.int .i64 x') from rfl)
  have hb0 := allocB (allocB (Below.refl w.heap.size w) (Obj.cells #[.int .i64 t, .int .i64 u, .int .i64 v, .int .i64 x] 23)) (Obj.cells #[.int .i64 t', .int .i64 u', .int .i64 v', .int .i64 x'] 23)
  clear q1 q2
  generalize (w.alloc (Obj.cells #[.int .i64 t, .int .i64 u, .int .i64 v, .int .i64 x] 23)).alloc (Obj.cells #[.int .i64 t', .int .i64 u', .int .i64 v', .int .i64 x'] 23) = w2 at *
  go_region_held3 (fun W => W.cell? ⟨w.heap.size, 0, none⟩ = some (.int .i64 t) ∧ W.cell? ⟨w.heap.size, 1, none⟩ = some (.int .i64 u) ∧ W.cell? ⟨w.heap.size, 2, none⟩ = some (.int .i64 v) ∧ W.cell? ⟨w.heap.size, 3, none⟩ = some (.int .i64 x) ∧
      W.cell? ⟨w.heap.size + 1, 0, none⟩ = some (.int .i64 t') ∧ W.cell? ⟨w.heap.size + 1, 1, none⟩ = some (.int .i64 u') ∧ W.cell? ⟨w.heap.size + 1, 2, none⟩ = some (.int .i64 v') ∧ W.cell? ⟨w.heap.size + 1, 3, none⟩ = some (.int .i64 x'))
    (first | go_keep | (go_split_ands; refine ⟨?_, ?_, ?_, ?_, ?_, ?_, ?_, ?_⟩ <;> exact cell_keep (by assumption) hbq))
    (first | (go_at_call 10; refine (toE _ _ _ _ _).mono ?_; rintro e wq ⟨rfl, hbq⟩) | (go_at_call 9; refine (sEL _ _ _ _ _ _ _ _ _).mono ?_; rintro e wq ⟨rfl, hbq⟩))
  rename_i wa ha wb hb' hH
  obtain ⟨r0', r1', r2', r3', s0', s1', s2', s3'⟩ := hH
  have hb1 := seqB (seqB (seqB (drew1B hb0) ha) hb') hbq
  clear r0 r1 r2 r3 s0 s1 s2 s3 hb0 ha hb' hbq
  go_wp2_with fail
  go_region_held3 (fun W => W.cell? ⟨w.heap.size, 0, none⟩ = some (.int .i64 t) ∧ W.cell? ⟨w.heap.size, 1, none⟩ = some (.int .i64 u) ∧ W.cell? ⟨w.heap.size, 2, none⟩ = some (.int .i64 v) ∧ W.cell? ⟨w.heap.size, 3, none⟩ = some (.int .i64 x) ∧
      W.cell? ⟨w.heap.size + 1, 0, none⟩ = some (.int .i64 t') ∧ W.cell? ⟨w.heap.size + 1, 1, none⟩ = some (.int .i64 u') ∧ W.cell? ⟨w.heap.size + 1, 2, none⟩ = some (.int .i64 v') ∧ W.cell? ⟨w.heap.size + 1, 3, none⟩ = some (.int .i64 x'))
    (first | go_keep | (go_split_ands; refine ⟨?_, ?_, ?_, ?_, ?_, ?_, ?_, ?_⟩ <;> exact cell_keep (by assumption) hbq))
    (first | (go_at_call 10; refine (toE _ _ _ _ _).mono ?_; rintro e wq ⟨rfl, hbq⟩) | (go_at_call 11; refine (iEL _ _ _ _ _ _ _ _ _).mono ?_; rintro e wq ⟨rfl, hbq⟩))
  rename_i wc hc wd hd hH
  have hb2 := seqB (seqB (seqB (drew1B hb1) hc) hd) hbq
  clear r0' r1' r2' r3' s0' s1' s2' s3' hb1 hc hd hbq hH
  generalize lessB ⟨t, u, v, x⟩ ⟨t', u', v', x'⟩ = s at *
  have hne : (s != s) = false := by simp
  go_wp2_with fail
  go_ret
  exact ⟨rfl, hb2⟩
end Go.Proofs.Ytmbbkehgdnfalaa.exEL
