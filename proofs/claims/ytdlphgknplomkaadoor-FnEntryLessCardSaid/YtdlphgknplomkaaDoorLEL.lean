/- The walk of FnEntryLess: it returns true, and writes nothing that was there. -/
import Derived.Test.YtdlphgknplomkaaDoorDrE2
import Derived.Test.YtdlphgknplomkaaDoorLawI
namespace Go.Proofs.YtdlphgknplomkaaDoor.lEL
open Go.RowKit Go.Proofs.YtdlphgknplomkaaDoor

theorem elII (a b c d t u v x : Int) (r : Bool) (w : World) (h : lessB ⟨a, b, c, d⟩ ⟨t, u, v, x⟩ = r) : Calls Tryd.prog 26 #[.agg #[.int .i64 a, .int .i64 b, .int .i64 c, .int .i64 d], .agg #[.int .i64 t, .int .i64 u, .int .i64 v, .int .i64 x]] w fun e w' => e = .returned (.bool r) ∧ Below w.heap.size w w' := by
  subst h; exact elI a b c d t u v x w
theorem el_cases (a b : Entry) : (lessB a b = true ∧ lessB b a = false ∧ ((a.fTime == b.fTime) = false ∨ ((a.fTime == b.fTime) = true ∧ (a.fWho == b.fWho) = false) ∨ ((a.fTime == b.fTime) = true ∧ (a.fWho == b.fWho) = true ∧ (a.fNumber == b.fNumber) = false))) ∨ (lessB a b = false ∧ lessB b a = true ∧ ((a.fTime == b.fTime) = false ∨ ((a.fTime == b.fTime) = true ∧ (a.fWho == b.fWho) = false) ∨ ((a.fTime == b.fTime) = true ∧ (a.fWho == b.fWho) = true ∧ (a.fNumber == b.fNumber) = false))) ∨ (lessB a b = false ∧ lessB b a = false ∧ (a.fTime == b.fTime) = true ∧ (a.fWho == b.fWho) = true ∧ (a.fNumber == b.fNumber) = true) := by
  obtain ⟨h1, h2, _⟩ := entry_law a b
  revert h1 h2
  cases lessB a b <;> cases lessB b a <;> cases (a.fTime == b.fTime) <;> cases (a.fWho == b.fWho) <;> cases (a.fNumber == b.fNumber) <;> simp

set_option maxRecDepth 100000 in
set_option maxHeartbeats 4000000 in
theorem walk (w : World) (A : Option Addr) (m c : Nat) (hc : m ≤ c) (hm : m ≤ maxLen) (hA : RdB w A m) :
    Calls Tryd.prog 6 #[.slice A m c] w fun e w' => e = .returned (.bool true) ∧ Below w.heap.size w w' := by
  unfold maxLen at hm
  by_cases hs : m ≤ 1048576
  case neg =>
    go_enter Tryd.func6, Tryd.ntmps6
    go_wp2_with fail
    go_ret
    exact ⟨rfl, Below.refl _ _⟩
  have HA := Lib.hid hA; clear hA
  have hb : Below w.heap.size w w := Below.refl _ _
  go_enter Tryd.func6, Tryd.ntmps6
  go_wp2_with fail
  refine (dDrawEntryLess A m c w hc hs HA.out).mono ?_
  rintro e w1 ⟨a0, a1, a2, a3, b0, b1, b2, b3, rfl, hbn⟩
  replace hb := seqB hb hbn
  clear hbn
  clear HA
  have BA : Hid (((w1.alloc (.cells #[.int .i64 a0, .int .i64 a1, .int .i64 a2, .int .i64 a3] 25)).alloc (.cells #[.int .i64 b0, .int .i64 b1, .int .i64 b2, .int .i64 b3] 25)).heap[w1.heap.size]? = some (.cells #[.int .i64 a0, .int .i64 a1, .int .i64 a2, .int .i64 a3] 25 (0, 0))) := be_boxL (newboxL w1 (.cells #[.int .i64 a0, .int .i64 a1, .int .i64 a2, .int .i64 a3] 25)) (allocB (Below.refl _ _) (.cells #[.int .i64 b0, .int .i64 b1, .int .i64 b2, .int .i64 b3] 25))
  have BB : Hid (((w1.alloc (.cells #[.int .i64 a0, .int .i64 a1, .int .i64 a2, .int .i64 a3] 25)).alloc (.cells #[.int .i64 b0, .int .i64 b1, .int .i64 b2, .int .i64 b3] 25)).heap[w1.heap.size + 1]? = some (.cells #[.int .i64 b0, .int .i64 b1, .int .i64 b2, .int .i64 b3] 25 (0, 0))) := by have h := newboxL (w1.alloc (.cells #[.int .i64 a0, .int .i64 a1, .int .i64 a2, .int .i64 a3] 25)) (.cells #[.int .i64 b0, .int .i64 b1, .int .i64 b2, .int .i64 b3] 25); rwa [show (w1.alloc (.cells #[.int .i64 a0, .int .i64 a1, .int .i64 a2, .int .i64 a3] 25)).heap.size = w1.heap.size + 1 by simp] at h
  replace hb := allocB (allocB hb (.cells #[.int .i64 a0, .int .i64 a1, .int .i64 a2, .int .i64 a3] 25)) (.cells #[.int .i64 b0, .int .i64 b1, .int .i64 b2, .int .i64 b3] 25)
  have ga0 : ((w1.alloc (.cells #[.int .i64 a0, .int .i64 a1, .int .i64 a2, .int .i64 a3] 25)).alloc (.cells #[.int .i64 b0, .int .i64 b1, .int .i64 b2, .int .i64 b3] 25)).cell? ⟨w1.heap.size, 0, none⟩ = some (.int .i64 a0) := boxcellL BA 0
  have ga1 : ((w1.alloc (.cells #[.int .i64 a0, .int .i64 a1, .int .i64 a2, .int .i64 a3] 25)).alloc (.cells #[.int .i64 b0, .int .i64 b1, .int .i64 b2, .int .i64 b3] 25)).cell? ⟨w1.heap.size, 1, none⟩ = some (.int .i64 a1) := boxcellL BA 1
  have ga2 : ((w1.alloc (.cells #[.int .i64 a0, .int .i64 a1, .int .i64 a2, .int .i64 a3] 25)).alloc (.cells #[.int .i64 b0, .int .i64 b1, .int .i64 b2, .int .i64 b3] 25)).cell? ⟨w1.heap.size, 2, none⟩ = some (.int .i64 a2) := boxcellL BA 2
  have ga3 : ((w1.alloc (.cells #[.int .i64 a0, .int .i64 a1, .int .i64 a2, .int .i64 a3] 25)).alloc (.cells #[.int .i64 b0, .int .i64 b1, .int .i64 b2, .int .i64 b3] 25)).cell? ⟨w1.heap.size, 3, none⟩ = some (.int .i64 a3) := boxcellL BA 3
  have gb0 : ((w1.alloc (.cells #[.int .i64 a0, .int .i64 a1, .int .i64 a2, .int .i64 a3] 25)).alloc (.cells #[.int .i64 b0, .int .i64 b1, .int .i64 b2, .int .i64 b3] 25)).cell? ⟨w1.heap.size + 1, 0, none⟩ = some (.int .i64 b0) := boxcellL BB 0
  have gb1 : ((w1.alloc (.cells #[.int .i64 a0, .int .i64 a1, .int .i64 a2, .int .i64 a3] 25)).alloc (.cells #[.int .i64 b0, .int .i64 b1, .int .i64 b2, .int .i64 b3] 25)).cell? ⟨w1.heap.size + 1, 1, none⟩ = some (.int .i64 b1) := boxcellL BB 1
  have gb2 : ((w1.alloc (.cells #[.int .i64 a0, .int .i64 a1, .int .i64 a2, .int .i64 a3] 25)).alloc (.cells #[.int .i64 b0, .int .i64 b1, .int .i64 b2, .int .i64 b3] 25)).cell? ⟨w1.heap.size + 1, 2, none⟩ = some (.int .i64 b2) := boxcellL BB 2
  have gb3 : ((w1.alloc (.cells #[.int .i64 a0, .int .i64 a1, .int .i64 a2, .int .i64 a3] 25)).alloc (.cells #[.int .i64 b0, .int .i64 b1, .int .i64 b2, .int .i64 b3] 25)).cell? ⟨w1.heap.size + 1, 3, none⟩ = some (.int .i64 b3) := boxcellL BB 3
  have haa := (entry_law ⟨a0, a1, a2, a3⟩ ⟨b0, b1, b2, b3⟩).2.2
  rcases el_cases ⟨a0, a1, a2, a3⟩ ⟨b0, b1, b2, b3⟩ with ⟨hab, hba, hs⟩ | ⟨hab, hba, hs⟩ | ⟨hab, hba, e1, e2, e3⟩
  · rcases hs with e1 | ⟨e1, e2⟩ | ⟨e1, e2, e3⟩
    · skip
      dsimp only at e1
      go_wp2_with fail
      refine (elII a0 a1 a2 a3 b0 b1 b2 b3 true _ hab).mono ?_
      rintro e v1 ⟨rfl, hbn⟩
      clear ga0 ga1 ga2 ga3 gb0 gb1 gb2 gb3
      replace hb := seqB hb hbn
      replace BA := be_boxL BA hbn
      replace BB := be_boxL BB hbn
      clear hbn
      have ga0 : v1.cell? ⟨w1.heap.size, 0, none⟩ = some (.int .i64 a0) := boxcellL BA 0
      have ga1 : v1.cell? ⟨w1.heap.size, 1, none⟩ = some (.int .i64 a1) := boxcellL BA 1
      have ga2 : v1.cell? ⟨w1.heap.size, 2, none⟩ = some (.int .i64 a2) := boxcellL BA 2
      have ga3 : v1.cell? ⟨w1.heap.size, 3, none⟩ = some (.int .i64 a3) := boxcellL BA 3
      have gb0 : v1.cell? ⟨w1.heap.size + 1, 0, none⟩ = some (.int .i64 b0) := boxcellL BB 0
      have gb1 : v1.cell? ⟨w1.heap.size + 1, 1, none⟩ = some (.int .i64 b1) := boxcellL BB 1
      have gb2 : v1.cell? ⟨w1.heap.size + 1, 2, none⟩ = some (.int .i64 b2) := boxcellL BB 2
      have gb3 : v1.cell? ⟨w1.heap.size + 1, 3, none⟩ = some (.int .i64 b3) := boxcellL BB 3
      go_wp2_with fail
      refine (elIs a0 a1 a2 a3 b0 b1 b2 b3 true _ hab).mono ?_
      rintro e v2 ⟨rfl, hbn⟩
      clear ga0 ga1 ga2 ga3 gb0 gb1 gb2 gb3
      replace hb := seqB hb hbn
      replace BA := be_boxL BA hbn
      replace BB := be_boxL BB hbn
      clear hbn
      have ga0 : v2.cell? ⟨w1.heap.size, 0, none⟩ = some (.int .i64 a0) := boxcellL BA 0
      have ga1 : v2.cell? ⟨w1.heap.size, 1, none⟩ = some (.int .i64 a1) := boxcellL BA 1
      have ga2 : v2.cell? ⟨w1.heap.size, 2, none⟩ = some (.int .i64 a2) := boxcellL BA 2
      have ga3 : v2.cell? ⟨w1.heap.size, 3, none⟩ = some (.int .i64 a3) := boxcellL BA 3
      have gb0 : v2.cell? ⟨w1.heap.size + 1, 0, none⟩ = some (.int .i64 b0) := boxcellL BB 0
      have gb1 : v2.cell? ⟨w1.heap.size + 1, 1, none⟩ = some (.int .i64 b1) := boxcellL BB 1
      have gb2 : v2.cell? ⟨w1.heap.size + 1, 2, none⟩ = some (.int .i64 b2) := boxcellL BB 2
      have gb3 : v2.cell? ⟨w1.heap.size + 1, 3, none⟩ = some (.int .i64 b3) := boxcellL BB 3
      go_wp2_with fail
      refine (elII b0 b1 b2 b3 a0 a1 a2 a3 false _ hba).mono ?_
      rintro e v3 ⟨rfl, hbn⟩
      clear ga0 ga1 ga2 ga3 gb0 gb1 gb2 gb3
      replace hb := seqB hb hbn
      replace BA := be_boxL BA hbn
      replace BB := be_boxL BB hbn
      clear hbn
      have ga0 : v3.cell? ⟨w1.heap.size, 0, none⟩ = some (.int .i64 a0) := boxcellL BA 0
      have ga1 : v3.cell? ⟨w1.heap.size, 1, none⟩ = some (.int .i64 a1) := boxcellL BA 1
      have ga2 : v3.cell? ⟨w1.heap.size, 2, none⟩ = some (.int .i64 a2) := boxcellL BA 2
      have ga3 : v3.cell? ⟨w1.heap.size, 3, none⟩ = some (.int .i64 a3) := boxcellL BA 3
      have gb0 : v3.cell? ⟨w1.heap.size + 1, 0, none⟩ = some (.int .i64 b0) := boxcellL BB 0
      have gb1 : v3.cell? ⟨w1.heap.size + 1, 1, none⟩ = some (.int .i64 b1) := boxcellL BB 1
      have gb2 : v3.cell? ⟨w1.heap.size + 1, 2, none⟩ = some (.int .i64 b2) := boxcellL BB 2
      have gb3 : v3.cell? ⟨w1.heap.size + 1, 3, none⟩ = some (.int .i64 b3) := boxcellL BB 3
      go_wp2_with fail
      refine (elII a0 a1 a2 a3 a0 a1 a2 a3 false _ haa).mono ?_
      rintro e v4 ⟨rfl, hbn⟩
      clear ga0 ga1 ga2 ga3 gb0 gb1 gb2 gb3
      replace hb := seqB hb hbn
      replace BA := be_boxL BA hbn
      replace BB := be_boxL BB hbn
      clear hbn
      have ga0 : v4.cell? ⟨w1.heap.size, 0, none⟩ = some (.int .i64 a0) := boxcellL BA 0
      have ga1 : v4.cell? ⟨w1.heap.size, 1, none⟩ = some (.int .i64 a1) := boxcellL BA 1
      have ga2 : v4.cell? ⟨w1.heap.size, 2, none⟩ = some (.int .i64 a2) := boxcellL BA 2
      have ga3 : v4.cell? ⟨w1.heap.size, 3, none⟩ = some (.int .i64 a3) := boxcellL BA 3
      have gb0 : v4.cell? ⟨w1.heap.size + 1, 0, none⟩ = some (.int .i64 b0) := boxcellL BB 0
      have gb1 : v4.cell? ⟨w1.heap.size + 1, 1, none⟩ = some (.int .i64 b1) := boxcellL BB 1
      have gb2 : v4.cell? ⟨w1.heap.size + 1, 2, none⟩ = some (.int .i64 b2) := boxcellL BB 2
      have gb3 : v4.cell? ⟨w1.heap.size + 1, 3, none⟩ = some (.int .i64 b3) := boxcellL BB 3
      go_wp2_with fail
      refine (aliveC _).mono ?_
      rintro e z9 ⟨rfl, hbn⟩
      replace hb := seqB hb hbn
      go_wp2_with fail
      go_ret
      exact ⟨ret_bool (by simp), hb⟩
    · skip
      dsimp only at e1 e2
      go_wp2_with fail
      refine (elII a0 a1 a2 a3 b0 b1 b2 b3 true _ hab).mono ?_
      rintro e v5 ⟨rfl, hbn⟩
      clear ga0 ga1 ga2 ga3 gb0 gb1 gb2 gb3
      replace hb := seqB hb hbn
      replace BA := be_boxL BA hbn
      replace BB := be_boxL BB hbn
      clear hbn
      have ga0 : v5.cell? ⟨w1.heap.size, 0, none⟩ = some (.int .i64 a0) := boxcellL BA 0
      have ga1 : v5.cell? ⟨w1.heap.size, 1, none⟩ = some (.int .i64 a1) := boxcellL BA 1
      have ga2 : v5.cell? ⟨w1.heap.size, 2, none⟩ = some (.int .i64 a2) := boxcellL BA 2
      have ga3 : v5.cell? ⟨w1.heap.size, 3, none⟩ = some (.int .i64 a3) := boxcellL BA 3
      have gb0 : v5.cell? ⟨w1.heap.size + 1, 0, none⟩ = some (.int .i64 b0) := boxcellL BB 0
      have gb1 : v5.cell? ⟨w1.heap.size + 1, 1, none⟩ = some (.int .i64 b1) := boxcellL BB 1
      have gb2 : v5.cell? ⟨w1.heap.size + 1, 2, none⟩ = some (.int .i64 b2) := boxcellL BB 2
      have gb3 : v5.cell? ⟨w1.heap.size + 1, 3, none⟩ = some (.int .i64 b3) := boxcellL BB 3
      go_wp2_with fail
      refine (elIs a0 a1 a2 a3 b0 b1 b2 b3 true _ hab).mono ?_
      rintro e v6 ⟨rfl, hbn⟩
      clear ga0 ga1 ga2 ga3 gb0 gb1 gb2 gb3
      replace hb := seqB hb hbn
      replace BA := be_boxL BA hbn
      replace BB := be_boxL BB hbn
      clear hbn
      have ga0 : v6.cell? ⟨w1.heap.size, 0, none⟩ = some (.int .i64 a0) := boxcellL BA 0
      have ga1 : v6.cell? ⟨w1.heap.size, 1, none⟩ = some (.int .i64 a1) := boxcellL BA 1
      have ga2 : v6.cell? ⟨w1.heap.size, 2, none⟩ = some (.int .i64 a2) := boxcellL BA 2
      have ga3 : v6.cell? ⟨w1.heap.size, 3, none⟩ = some (.int .i64 a3) := boxcellL BA 3
      have gb0 : v6.cell? ⟨w1.heap.size + 1, 0, none⟩ = some (.int .i64 b0) := boxcellL BB 0
      have gb1 : v6.cell? ⟨w1.heap.size + 1, 1, none⟩ = some (.int .i64 b1) := boxcellL BB 1
      have gb2 : v6.cell? ⟨w1.heap.size + 1, 2, none⟩ = some (.int .i64 b2) := boxcellL BB 2
      have gb3 : v6.cell? ⟨w1.heap.size + 1, 3, none⟩ = some (.int .i64 b3) := boxcellL BB 3
      go_wp2_with fail
      refine (elII b0 b1 b2 b3 a0 a1 a2 a3 false _ hba).mono ?_
      rintro e v7 ⟨rfl, hbn⟩
      clear ga0 ga1 ga2 ga3 gb0 gb1 gb2 gb3
      replace hb := seqB hb hbn
      replace BA := be_boxL BA hbn
      replace BB := be_boxL BB hbn
      clear hbn
      have ga0 : v7.cell? ⟨w1.heap.size, 0, none⟩ = some (.int .i64 a0) := boxcellL BA 0
      have ga1 : v7.cell? ⟨w1.heap.size, 1, none⟩ = some (.int .i64 a1) := boxcellL BA 1
      have ga2 : v7.cell? ⟨w1.heap.size, 2, none⟩ = some (.int .i64 a2) := boxcellL BA 2
      have ga3 : v7.cell? ⟨w1.heap.size, 3, none⟩ = some (.int .i64 a3) := boxcellL BA 3
      have gb0 : v7.cell? ⟨w1.heap.size + 1, 0, none⟩ = some (.int .i64 b0) := boxcellL BB 0
      have gb1 : v7.cell? ⟨w1.heap.size + 1, 1, none⟩ = some (.int .i64 b1) := boxcellL BB 1
      have gb2 : v7.cell? ⟨w1.heap.size + 1, 2, none⟩ = some (.int .i64 b2) := boxcellL BB 2
      have gb3 : v7.cell? ⟨w1.heap.size + 1, 3, none⟩ = some (.int .i64 b3) := boxcellL BB 3
      go_wp2_with fail
      refine (elII a0 a1 a2 a3 a0 a1 a2 a3 false _ haa).mono ?_
      rintro e v8 ⟨rfl, hbn⟩
      clear ga0 ga1 ga2 ga3 gb0 gb1 gb2 gb3
      replace hb := seqB hb hbn
      replace BA := be_boxL BA hbn
      replace BB := be_boxL BB hbn
      clear hbn
      have ga0 : v8.cell? ⟨w1.heap.size, 0, none⟩ = some (.int .i64 a0) := boxcellL BA 0
      have ga1 : v8.cell? ⟨w1.heap.size, 1, none⟩ = some (.int .i64 a1) := boxcellL BA 1
      have ga2 : v8.cell? ⟨w1.heap.size, 2, none⟩ = some (.int .i64 a2) := boxcellL BA 2
      have ga3 : v8.cell? ⟨w1.heap.size, 3, none⟩ = some (.int .i64 a3) := boxcellL BA 3
      have gb0 : v8.cell? ⟨w1.heap.size + 1, 0, none⟩ = some (.int .i64 b0) := boxcellL BB 0
      have gb1 : v8.cell? ⟨w1.heap.size + 1, 1, none⟩ = some (.int .i64 b1) := boxcellL BB 1
      have gb2 : v8.cell? ⟨w1.heap.size + 1, 2, none⟩ = some (.int .i64 b2) := boxcellL BB 2
      have gb3 : v8.cell? ⟨w1.heap.size + 1, 3, none⟩ = some (.int .i64 b3) := boxcellL BB 3
      go_wp2_with fail
      refine (aliveC _).mono ?_
      rintro e z9 ⟨rfl, hbn⟩
      replace hb := seqB hb hbn
      go_wp2_with fail
      go_ret
      exact ⟨ret_bool (by simp), hb⟩
    · skip
      dsimp only at e1 e2 e3
      go_wp2_with fail
      refine (elII a0 a1 a2 a3 b0 b1 b2 b3 true _ hab).mono ?_
      rintro e v9 ⟨rfl, hbn⟩
      clear ga0 ga1 ga2 ga3 gb0 gb1 gb2 gb3
      replace hb := seqB hb hbn
      replace BA := be_boxL BA hbn
      replace BB := be_boxL BB hbn
      clear hbn
      have ga0 : v9.cell? ⟨w1.heap.size, 0, none⟩ = some (.int .i64 a0) := boxcellL BA 0
      have ga1 : v9.cell? ⟨w1.heap.size, 1, none⟩ = some (.int .i64 a1) := boxcellL BA 1
      have ga2 : v9.cell? ⟨w1.heap.size, 2, none⟩ = some (.int .i64 a2) := boxcellL BA 2
      have ga3 : v9.cell? ⟨w1.heap.size, 3, none⟩ = some (.int .i64 a3) := boxcellL BA 3
      have gb0 : v9.cell? ⟨w1.heap.size + 1, 0, none⟩ = some (.int .i64 b0) := boxcellL BB 0
      have gb1 : v9.cell? ⟨w1.heap.size + 1, 1, none⟩ = some (.int .i64 b1) := boxcellL BB 1
      have gb2 : v9.cell? ⟨w1.heap.size + 1, 2, none⟩ = some (.int .i64 b2) := boxcellL BB 2
      have gb3 : v9.cell? ⟨w1.heap.size + 1, 3, none⟩ = some (.int .i64 b3) := boxcellL BB 3
      go_wp2_with fail
      refine (elIs a0 a1 a2 a3 b0 b1 b2 b3 true _ hab).mono ?_
      rintro e v10 ⟨rfl, hbn⟩
      clear ga0 ga1 ga2 ga3 gb0 gb1 gb2 gb3
      replace hb := seqB hb hbn
      replace BA := be_boxL BA hbn
      replace BB := be_boxL BB hbn
      clear hbn
      have ga0 : v10.cell? ⟨w1.heap.size, 0, none⟩ = some (.int .i64 a0) := boxcellL BA 0
      have ga1 : v10.cell? ⟨w1.heap.size, 1, none⟩ = some (.int .i64 a1) := boxcellL BA 1
      have ga2 : v10.cell? ⟨w1.heap.size, 2, none⟩ = some (.int .i64 a2) := boxcellL BA 2
      have ga3 : v10.cell? ⟨w1.heap.size, 3, none⟩ = some (.int .i64 a3) := boxcellL BA 3
      have gb0 : v10.cell? ⟨w1.heap.size + 1, 0, none⟩ = some (.int .i64 b0) := boxcellL BB 0
      have gb1 : v10.cell? ⟨w1.heap.size + 1, 1, none⟩ = some (.int .i64 b1) := boxcellL BB 1
      have gb2 : v10.cell? ⟨w1.heap.size + 1, 2, none⟩ = some (.int .i64 b2) := boxcellL BB 2
      have gb3 : v10.cell? ⟨w1.heap.size + 1, 3, none⟩ = some (.int .i64 b3) := boxcellL BB 3
      go_wp2_with fail
      refine (elII b0 b1 b2 b3 a0 a1 a2 a3 false _ hba).mono ?_
      rintro e v11 ⟨rfl, hbn⟩
      clear ga0 ga1 ga2 ga3 gb0 gb1 gb2 gb3
      replace hb := seqB hb hbn
      replace BA := be_boxL BA hbn
      replace BB := be_boxL BB hbn
      clear hbn
      have ga0 : v11.cell? ⟨w1.heap.size, 0, none⟩ = some (.int .i64 a0) := boxcellL BA 0
      have ga1 : v11.cell? ⟨w1.heap.size, 1, none⟩ = some (.int .i64 a1) := boxcellL BA 1
      have ga2 : v11.cell? ⟨w1.heap.size, 2, none⟩ = some (.int .i64 a2) := boxcellL BA 2
      have ga3 : v11.cell? ⟨w1.heap.size, 3, none⟩ = some (.int .i64 a3) := boxcellL BA 3
      have gb0 : v11.cell? ⟨w1.heap.size + 1, 0, none⟩ = some (.int .i64 b0) := boxcellL BB 0
      have gb1 : v11.cell? ⟨w1.heap.size + 1, 1, none⟩ = some (.int .i64 b1) := boxcellL BB 1
      have gb2 : v11.cell? ⟨w1.heap.size + 1, 2, none⟩ = some (.int .i64 b2) := boxcellL BB 2
      have gb3 : v11.cell? ⟨w1.heap.size + 1, 3, none⟩ = some (.int .i64 b3) := boxcellL BB 3
      go_wp2_with fail
      refine (elII a0 a1 a2 a3 a0 a1 a2 a3 false _ haa).mono ?_
      rintro e v12 ⟨rfl, hbn⟩
      clear ga0 ga1 ga2 ga3 gb0 gb1 gb2 gb3
      replace hb := seqB hb hbn
      replace BA := be_boxL BA hbn
      replace BB := be_boxL BB hbn
      clear hbn
      have ga0 : v12.cell? ⟨w1.heap.size, 0, none⟩ = some (.int .i64 a0) := boxcellL BA 0
      have ga1 : v12.cell? ⟨w1.heap.size, 1, none⟩ = some (.int .i64 a1) := boxcellL BA 1
      have ga2 : v12.cell? ⟨w1.heap.size, 2, none⟩ = some (.int .i64 a2) := boxcellL BA 2
      have ga3 : v12.cell? ⟨w1.heap.size, 3, none⟩ = some (.int .i64 a3) := boxcellL BA 3
      have gb0 : v12.cell? ⟨w1.heap.size + 1, 0, none⟩ = some (.int .i64 b0) := boxcellL BB 0
      have gb1 : v12.cell? ⟨w1.heap.size + 1, 1, none⟩ = some (.int .i64 b1) := boxcellL BB 1
      have gb2 : v12.cell? ⟨w1.heap.size + 1, 2, none⟩ = some (.int .i64 b2) := boxcellL BB 2
      have gb3 : v12.cell? ⟨w1.heap.size + 1, 3, none⟩ = some (.int .i64 b3) := boxcellL BB 3
      go_wp2_with fail
      refine (aliveC _).mono ?_
      rintro e z9 ⟨rfl, hbn⟩
      replace hb := seqB hb hbn
      go_wp2_with fail
      go_ret
      exact ⟨ret_bool (by simp), hb⟩
  · rcases hs with e1 | ⟨e1, e2⟩ | ⟨e1, e2, e3⟩
    · skip
      dsimp only at e1
      go_wp2_with fail
      refine (elII a0 a1 a2 a3 b0 b1 b2 b3 false _ hab).mono ?_
      rintro e v13 ⟨rfl, hbn⟩
      clear ga0 ga1 ga2 ga3 gb0 gb1 gb2 gb3
      replace hb := seqB hb hbn
      replace BA := be_boxL BA hbn
      replace BB := be_boxL BB hbn
      clear hbn
      have ga0 : v13.cell? ⟨w1.heap.size, 0, none⟩ = some (.int .i64 a0) := boxcellL BA 0
      have ga1 : v13.cell? ⟨w1.heap.size, 1, none⟩ = some (.int .i64 a1) := boxcellL BA 1
      have ga2 : v13.cell? ⟨w1.heap.size, 2, none⟩ = some (.int .i64 a2) := boxcellL BA 2
      have ga3 : v13.cell? ⟨w1.heap.size, 3, none⟩ = some (.int .i64 a3) := boxcellL BA 3
      have gb0 : v13.cell? ⟨w1.heap.size + 1, 0, none⟩ = some (.int .i64 b0) := boxcellL BB 0
      have gb1 : v13.cell? ⟨w1.heap.size + 1, 1, none⟩ = some (.int .i64 b1) := boxcellL BB 1
      have gb2 : v13.cell? ⟨w1.heap.size + 1, 2, none⟩ = some (.int .i64 b2) := boxcellL BB 2
      have gb3 : v13.cell? ⟨w1.heap.size + 1, 3, none⟩ = some (.int .i64 b3) := boxcellL BB 3
      go_wp2_with fail
      refine (elIs a0 a1 a2 a3 b0 b1 b2 b3 false _ hab).mono ?_
      rintro e v14 ⟨rfl, hbn⟩
      clear ga0 ga1 ga2 ga3 gb0 gb1 gb2 gb3
      replace hb := seqB hb hbn
      replace BA := be_boxL BA hbn
      replace BB := be_boxL BB hbn
      clear hbn
      have ga0 : v14.cell? ⟨w1.heap.size, 0, none⟩ = some (.int .i64 a0) := boxcellL BA 0
      have ga1 : v14.cell? ⟨w1.heap.size, 1, none⟩ = some (.int .i64 a1) := boxcellL BA 1
      have ga2 : v14.cell? ⟨w1.heap.size, 2, none⟩ = some (.int .i64 a2) := boxcellL BA 2
      have ga3 : v14.cell? ⟨w1.heap.size, 3, none⟩ = some (.int .i64 a3) := boxcellL BA 3
      have gb0 : v14.cell? ⟨w1.heap.size + 1, 0, none⟩ = some (.int .i64 b0) := boxcellL BB 0
      have gb1 : v14.cell? ⟨w1.heap.size + 1, 1, none⟩ = some (.int .i64 b1) := boxcellL BB 1
      have gb2 : v14.cell? ⟨w1.heap.size + 1, 2, none⟩ = some (.int .i64 b2) := boxcellL BB 2
      have gb3 : v14.cell? ⟨w1.heap.size + 1, 3, none⟩ = some (.int .i64 b3) := boxcellL BB 3
      go_wp2_with fail
      refine (elII b0 b1 b2 b3 a0 a1 a2 a3 true _ hba).mono ?_
      rintro e v15 ⟨rfl, hbn⟩
      clear ga0 ga1 ga2 ga3 gb0 gb1 gb2 gb3
      replace hb := seqB hb hbn
      replace BA := be_boxL BA hbn
      replace BB := be_boxL BB hbn
      clear hbn
      have ga0 : v15.cell? ⟨w1.heap.size, 0, none⟩ = some (.int .i64 a0) := boxcellL BA 0
      have ga1 : v15.cell? ⟨w1.heap.size, 1, none⟩ = some (.int .i64 a1) := boxcellL BA 1
      have ga2 : v15.cell? ⟨w1.heap.size, 2, none⟩ = some (.int .i64 a2) := boxcellL BA 2
      have ga3 : v15.cell? ⟨w1.heap.size, 3, none⟩ = some (.int .i64 a3) := boxcellL BA 3
      have gb0 : v15.cell? ⟨w1.heap.size + 1, 0, none⟩ = some (.int .i64 b0) := boxcellL BB 0
      have gb1 : v15.cell? ⟨w1.heap.size + 1, 1, none⟩ = some (.int .i64 b1) := boxcellL BB 1
      have gb2 : v15.cell? ⟨w1.heap.size + 1, 2, none⟩ = some (.int .i64 b2) := boxcellL BB 2
      have gb3 : v15.cell? ⟨w1.heap.size + 1, 3, none⟩ = some (.int .i64 b3) := boxcellL BB 3
      go_wp2_with fail
      refine (elII a0 a1 a2 a3 a0 a1 a2 a3 false _ haa).mono ?_
      rintro e v16 ⟨rfl, hbn⟩
      clear ga0 ga1 ga2 ga3 gb0 gb1 gb2 gb3
      replace hb := seqB hb hbn
      replace BA := be_boxL BA hbn
      replace BB := be_boxL BB hbn
      clear hbn
      have ga0 : v16.cell? ⟨w1.heap.size, 0, none⟩ = some (.int .i64 a0) := boxcellL BA 0
      have ga1 : v16.cell? ⟨w1.heap.size, 1, none⟩ = some (.int .i64 a1) := boxcellL BA 1
      have ga2 : v16.cell? ⟨w1.heap.size, 2, none⟩ = some (.int .i64 a2) := boxcellL BA 2
      have ga3 : v16.cell? ⟨w1.heap.size, 3, none⟩ = some (.int .i64 a3) := boxcellL BA 3
      have gb0 : v16.cell? ⟨w1.heap.size + 1, 0, none⟩ = some (.int .i64 b0) := boxcellL BB 0
      have gb1 : v16.cell? ⟨w1.heap.size + 1, 1, none⟩ = some (.int .i64 b1) := boxcellL BB 1
      have gb2 : v16.cell? ⟨w1.heap.size + 1, 2, none⟩ = some (.int .i64 b2) := boxcellL BB 2
      have gb3 : v16.cell? ⟨w1.heap.size + 1, 3, none⟩ = some (.int .i64 b3) := boxcellL BB 3
      go_wp2_with fail
      refine (aliveC _).mono ?_
      rintro e z9 ⟨rfl, hbn⟩
      replace hb := seqB hb hbn
      go_wp2_with fail
      go_ret
      exact ⟨ret_bool (by simp), hb⟩
    · skip
      dsimp only at e1 e2
      go_wp2_with fail
      refine (elII a0 a1 a2 a3 b0 b1 b2 b3 false _ hab).mono ?_
      rintro e v17 ⟨rfl, hbn⟩
      clear ga0 ga1 ga2 ga3 gb0 gb1 gb2 gb3
      replace hb := seqB hb hbn
      replace BA := be_boxL BA hbn
      replace BB := be_boxL BB hbn
      clear hbn
      have ga0 : v17.cell? ⟨w1.heap.size, 0, none⟩ = some (.int .i64 a0) := boxcellL BA 0
      have ga1 : v17.cell? ⟨w1.heap.size, 1, none⟩ = some (.int .i64 a1) := boxcellL BA 1
      have ga2 : v17.cell? ⟨w1.heap.size, 2, none⟩ = some (.int .i64 a2) := boxcellL BA 2
      have ga3 : v17.cell? ⟨w1.heap.size, 3, none⟩ = some (.int .i64 a3) := boxcellL BA 3
      have gb0 : v17.cell? ⟨w1.heap.size + 1, 0, none⟩ = some (.int .i64 b0) := boxcellL BB 0
      have gb1 : v17.cell? ⟨w1.heap.size + 1, 1, none⟩ = some (.int .i64 b1) := boxcellL BB 1
      have gb2 : v17.cell? ⟨w1.heap.size + 1, 2, none⟩ = some (.int .i64 b2) := boxcellL BB 2
      have gb3 : v17.cell? ⟨w1.heap.size + 1, 3, none⟩ = some (.int .i64 b3) := boxcellL BB 3
      go_wp2_with fail
      refine (elIs a0 a1 a2 a3 b0 b1 b2 b3 false _ hab).mono ?_
      rintro e v18 ⟨rfl, hbn⟩
      clear ga0 ga1 ga2 ga3 gb0 gb1 gb2 gb3
      replace hb := seqB hb hbn
      replace BA := be_boxL BA hbn
      replace BB := be_boxL BB hbn
      clear hbn
      have ga0 : v18.cell? ⟨w1.heap.size, 0, none⟩ = some (.int .i64 a0) := boxcellL BA 0
      have ga1 : v18.cell? ⟨w1.heap.size, 1, none⟩ = some (.int .i64 a1) := boxcellL BA 1
      have ga2 : v18.cell? ⟨w1.heap.size, 2, none⟩ = some (.int .i64 a2) := boxcellL BA 2
      have ga3 : v18.cell? ⟨w1.heap.size, 3, none⟩ = some (.int .i64 a3) := boxcellL BA 3
      have gb0 : v18.cell? ⟨w1.heap.size + 1, 0, none⟩ = some (.int .i64 b0) := boxcellL BB 0
      have gb1 : v18.cell? ⟨w1.heap.size + 1, 1, none⟩ = some (.int .i64 b1) := boxcellL BB 1
      have gb2 : v18.cell? ⟨w1.heap.size + 1, 2, none⟩ = some (.int .i64 b2) := boxcellL BB 2
      have gb3 : v18.cell? ⟨w1.heap.size + 1, 3, none⟩ = some (.int .i64 b3) := boxcellL BB 3
      go_wp2_with fail
      refine (elII b0 b1 b2 b3 a0 a1 a2 a3 true _ hba).mono ?_
      rintro e v19 ⟨rfl, hbn⟩
      clear ga0 ga1 ga2 ga3 gb0 gb1 gb2 gb3
      replace hb := seqB hb hbn
      replace BA := be_boxL BA hbn
      replace BB := be_boxL BB hbn
      clear hbn
      have ga0 : v19.cell? ⟨w1.heap.size, 0, none⟩ = some (.int .i64 a0) := boxcellL BA 0
      have ga1 : v19.cell? ⟨w1.heap.size, 1, none⟩ = some (.int .i64 a1) := boxcellL BA 1
      have ga2 : v19.cell? ⟨w1.heap.size, 2, none⟩ = some (.int .i64 a2) := boxcellL BA 2
      have ga3 : v19.cell? ⟨w1.heap.size, 3, none⟩ = some (.int .i64 a3) := boxcellL BA 3
      have gb0 : v19.cell? ⟨w1.heap.size + 1, 0, none⟩ = some (.int .i64 b0) := boxcellL BB 0
      have gb1 : v19.cell? ⟨w1.heap.size + 1, 1, none⟩ = some (.int .i64 b1) := boxcellL BB 1
      have gb2 : v19.cell? ⟨w1.heap.size + 1, 2, none⟩ = some (.int .i64 b2) := boxcellL BB 2
      have gb3 : v19.cell? ⟨w1.heap.size + 1, 3, none⟩ = some (.int .i64 b3) := boxcellL BB 3
      go_wp2_with fail
      refine (elII a0 a1 a2 a3 a0 a1 a2 a3 false _ haa).mono ?_
      rintro e v20 ⟨rfl, hbn⟩
      clear ga0 ga1 ga2 ga3 gb0 gb1 gb2 gb3
      replace hb := seqB hb hbn
      replace BA := be_boxL BA hbn
      replace BB := be_boxL BB hbn
      clear hbn
      have ga0 : v20.cell? ⟨w1.heap.size, 0, none⟩ = some (.int .i64 a0) := boxcellL BA 0
      have ga1 : v20.cell? ⟨w1.heap.size, 1, none⟩ = some (.int .i64 a1) := boxcellL BA 1
      have ga2 : v20.cell? ⟨w1.heap.size, 2, none⟩ = some (.int .i64 a2) := boxcellL BA 2
      have ga3 : v20.cell? ⟨w1.heap.size, 3, none⟩ = some (.int .i64 a3) := boxcellL BA 3
      have gb0 : v20.cell? ⟨w1.heap.size + 1, 0, none⟩ = some (.int .i64 b0) := boxcellL BB 0
      have gb1 : v20.cell? ⟨w1.heap.size + 1, 1, none⟩ = some (.int .i64 b1) := boxcellL BB 1
      have gb2 : v20.cell? ⟨w1.heap.size + 1, 2, none⟩ = some (.int .i64 b2) := boxcellL BB 2
      have gb3 : v20.cell? ⟨w1.heap.size + 1, 3, none⟩ = some (.int .i64 b3) := boxcellL BB 3
      go_wp2_with fail
      refine (aliveC _).mono ?_
      rintro e z9 ⟨rfl, hbn⟩
      replace hb := seqB hb hbn
      go_wp2_with fail
      go_ret
      exact ⟨ret_bool (by simp), hb⟩
    · skip
      dsimp only at e1 e2 e3
      go_wp2_with fail
      refine (elII a0 a1 a2 a3 b0 b1 b2 b3 false _ hab).mono ?_
      rintro e v21 ⟨rfl, hbn⟩
      clear ga0 ga1 ga2 ga3 gb0 gb1 gb2 gb3
      replace hb := seqB hb hbn
      replace BA := be_boxL BA hbn
      replace BB := be_boxL BB hbn
      clear hbn
      have ga0 : v21.cell? ⟨w1.heap.size, 0, none⟩ = some (.int .i64 a0) := boxcellL BA 0
      have ga1 : v21.cell? ⟨w1.heap.size, 1, none⟩ = some (.int .i64 a1) := boxcellL BA 1
      have ga2 : v21.cell? ⟨w1.heap.size, 2, none⟩ = some (.int .i64 a2) := boxcellL BA 2
      have ga3 : v21.cell? ⟨w1.heap.size, 3, none⟩ = some (.int .i64 a3) := boxcellL BA 3
      have gb0 : v21.cell? ⟨w1.heap.size + 1, 0, none⟩ = some (.int .i64 b0) := boxcellL BB 0
      have gb1 : v21.cell? ⟨w1.heap.size + 1, 1, none⟩ = some (.int .i64 b1) := boxcellL BB 1
      have gb2 : v21.cell? ⟨w1.heap.size + 1, 2, none⟩ = some (.int .i64 b2) := boxcellL BB 2
      have gb3 : v21.cell? ⟨w1.heap.size + 1, 3, none⟩ = some (.int .i64 b3) := boxcellL BB 3
      go_wp2_with fail
      refine (elIs a0 a1 a2 a3 b0 b1 b2 b3 false _ hab).mono ?_
      rintro e v22 ⟨rfl, hbn⟩
      clear ga0 ga1 ga2 ga3 gb0 gb1 gb2 gb3
      replace hb := seqB hb hbn
      replace BA := be_boxL BA hbn
      replace BB := be_boxL BB hbn
      clear hbn
      have ga0 : v22.cell? ⟨w1.heap.size, 0, none⟩ = some (.int .i64 a0) := boxcellL BA 0
      have ga1 : v22.cell? ⟨w1.heap.size, 1, none⟩ = some (.int .i64 a1) := boxcellL BA 1
      have ga2 : v22.cell? ⟨w1.heap.size, 2, none⟩ = some (.int .i64 a2) := boxcellL BA 2
      have ga3 : v22.cell? ⟨w1.heap.size, 3, none⟩ = some (.int .i64 a3) := boxcellL BA 3
      have gb0 : v22.cell? ⟨w1.heap.size + 1, 0, none⟩ = some (.int .i64 b0) := boxcellL BB 0
      have gb1 : v22.cell? ⟨w1.heap.size + 1, 1, none⟩ = some (.int .i64 b1) := boxcellL BB 1
      have gb2 : v22.cell? ⟨w1.heap.size + 1, 2, none⟩ = some (.int .i64 b2) := boxcellL BB 2
      have gb3 : v22.cell? ⟨w1.heap.size + 1, 3, none⟩ = some (.int .i64 b3) := boxcellL BB 3
      go_wp2_with fail
      refine (elII b0 b1 b2 b3 a0 a1 a2 a3 true _ hba).mono ?_
      rintro e v23 ⟨rfl, hbn⟩
      clear ga0 ga1 ga2 ga3 gb0 gb1 gb2 gb3
      replace hb := seqB hb hbn
      replace BA := be_boxL BA hbn
      replace BB := be_boxL BB hbn
      clear hbn
      have ga0 : v23.cell? ⟨w1.heap.size, 0, none⟩ = some (.int .i64 a0) := boxcellL BA 0
      have ga1 : v23.cell? ⟨w1.heap.size, 1, none⟩ = some (.int .i64 a1) := boxcellL BA 1
      have ga2 : v23.cell? ⟨w1.heap.size, 2, none⟩ = some (.int .i64 a2) := boxcellL BA 2
      have ga3 : v23.cell? ⟨w1.heap.size, 3, none⟩ = some (.int .i64 a3) := boxcellL BA 3
      have gb0 : v23.cell? ⟨w1.heap.size + 1, 0, none⟩ = some (.int .i64 b0) := boxcellL BB 0
      have gb1 : v23.cell? ⟨w1.heap.size + 1, 1, none⟩ = some (.int .i64 b1) := boxcellL BB 1
      have gb2 : v23.cell? ⟨w1.heap.size + 1, 2, none⟩ = some (.int .i64 b2) := boxcellL BB 2
      have gb3 : v23.cell? ⟨w1.heap.size + 1, 3, none⟩ = some (.int .i64 b3) := boxcellL BB 3
      go_wp2_with fail
      refine (elII a0 a1 a2 a3 a0 a1 a2 a3 false _ haa).mono ?_
      rintro e v24 ⟨rfl, hbn⟩
      clear ga0 ga1 ga2 ga3 gb0 gb1 gb2 gb3
      replace hb := seqB hb hbn
      replace BA := be_boxL BA hbn
      replace BB := be_boxL BB hbn
      clear hbn
      have ga0 : v24.cell? ⟨w1.heap.size, 0, none⟩ = some (.int .i64 a0) := boxcellL BA 0
      have ga1 : v24.cell? ⟨w1.heap.size, 1, none⟩ = some (.int .i64 a1) := boxcellL BA 1
      have ga2 : v24.cell? ⟨w1.heap.size, 2, none⟩ = some (.int .i64 a2) := boxcellL BA 2
      have ga3 : v24.cell? ⟨w1.heap.size, 3, none⟩ = some (.int .i64 a3) := boxcellL BA 3
      have gb0 : v24.cell? ⟨w1.heap.size + 1, 0, none⟩ = some (.int .i64 b0) := boxcellL BB 0
      have gb1 : v24.cell? ⟨w1.heap.size + 1, 1, none⟩ = some (.int .i64 b1) := boxcellL BB 1
      have gb2 : v24.cell? ⟨w1.heap.size + 1, 2, none⟩ = some (.int .i64 b2) := boxcellL BB 2
      have gb3 : v24.cell? ⟨w1.heap.size + 1, 3, none⟩ = some (.int .i64 b3) := boxcellL BB 3
      go_wp2_with fail
      refine (aliveC _).mono ?_
      rintro e z9 ⟨rfl, hbn⟩
      replace hb := seqB hb hbn
      go_wp2_with fail
      go_ret
      exact ⟨ret_bool (by simp), hb⟩
  · dsimp only at e1 e2 e3
    go_wp2_with fail
    refine (elII a0 a1 a2 a3 b0 b1 b2 b3 false _ hab).mono ?_
    rintro e v25 ⟨rfl, hbn⟩
    clear ga0 ga1 ga2 ga3 gb0 gb1 gb2 gb3
    replace hb := seqB hb hbn
    replace BA := be_boxL BA hbn
    replace BB := be_boxL BB hbn
    clear hbn
    have ga0 : v25.cell? ⟨w1.heap.size, 0, none⟩ = some (.int .i64 a0) := boxcellL BA 0
    have ga1 : v25.cell? ⟨w1.heap.size, 1, none⟩ = some (.int .i64 a1) := boxcellL BA 1
    have ga2 : v25.cell? ⟨w1.heap.size, 2, none⟩ = some (.int .i64 a2) := boxcellL BA 2
    have ga3 : v25.cell? ⟨w1.heap.size, 3, none⟩ = some (.int .i64 a3) := boxcellL BA 3
    have gb0 : v25.cell? ⟨w1.heap.size + 1, 0, none⟩ = some (.int .i64 b0) := boxcellL BB 0
    have gb1 : v25.cell? ⟨w1.heap.size + 1, 1, none⟩ = some (.int .i64 b1) := boxcellL BB 1
    have gb2 : v25.cell? ⟨w1.heap.size + 1, 2, none⟩ = some (.int .i64 b2) := boxcellL BB 2
    have gb3 : v25.cell? ⟨w1.heap.size + 1, 3, none⟩ = some (.int .i64 b3) := boxcellL BB 3
    go_wp2_with fail
    refine (elIs a0 a1 a2 a3 b0 b1 b2 b3 false _ hab).mono ?_
    rintro e v26 ⟨rfl, hbn⟩
    clear ga0 ga1 ga2 ga3 gb0 gb1 gb2 gb3
    replace hb := seqB hb hbn
    replace BA := be_boxL BA hbn
    replace BB := be_boxL BB hbn
    clear hbn
    have ga0 : v26.cell? ⟨w1.heap.size, 0, none⟩ = some (.int .i64 a0) := boxcellL BA 0
    have ga1 : v26.cell? ⟨w1.heap.size, 1, none⟩ = some (.int .i64 a1) := boxcellL BA 1
    have ga2 : v26.cell? ⟨w1.heap.size, 2, none⟩ = some (.int .i64 a2) := boxcellL BA 2
    have ga3 : v26.cell? ⟨w1.heap.size, 3, none⟩ = some (.int .i64 a3) := boxcellL BA 3
    have gb0 : v26.cell? ⟨w1.heap.size + 1, 0, none⟩ = some (.int .i64 b0) := boxcellL BB 0
    have gb1 : v26.cell? ⟨w1.heap.size + 1, 1, none⟩ = some (.int .i64 b1) := boxcellL BB 1
    have gb2 : v26.cell? ⟨w1.heap.size + 1, 2, none⟩ = some (.int .i64 b2) := boxcellL BB 2
    have gb3 : v26.cell? ⟨w1.heap.size + 1, 3, none⟩ = some (.int .i64 b3) := boxcellL BB 3
    go_wp2_with fail
    refine (elII b0 b1 b2 b3 a0 a1 a2 a3 false _ hba).mono ?_
    rintro e v27 ⟨rfl, hbn⟩
    clear ga0 ga1 ga2 ga3 gb0 gb1 gb2 gb3
    replace hb := seqB hb hbn
    replace BA := be_boxL BA hbn
    replace BB := be_boxL BB hbn
    clear hbn
    have ga0 : v27.cell? ⟨w1.heap.size, 0, none⟩ = some (.int .i64 a0) := boxcellL BA 0
    have ga1 : v27.cell? ⟨w1.heap.size, 1, none⟩ = some (.int .i64 a1) := boxcellL BA 1
    have ga2 : v27.cell? ⟨w1.heap.size, 2, none⟩ = some (.int .i64 a2) := boxcellL BA 2
    have ga3 : v27.cell? ⟨w1.heap.size, 3, none⟩ = some (.int .i64 a3) := boxcellL BA 3
    have gb0 : v27.cell? ⟨w1.heap.size + 1, 0, none⟩ = some (.int .i64 b0) := boxcellL BB 0
    have gb1 : v27.cell? ⟨w1.heap.size + 1, 1, none⟩ = some (.int .i64 b1) := boxcellL BB 1
    have gb2 : v27.cell? ⟨w1.heap.size + 1, 2, none⟩ = some (.int .i64 b2) := boxcellL BB 2
    have gb3 : v27.cell? ⟨w1.heap.size + 1, 3, none⟩ = some (.int .i64 b3) := boxcellL BB 3
    go_wp2_with fail
    refine (elII a0 a1 a2 a3 a0 a1 a2 a3 false _ haa).mono ?_
    rintro e v28 ⟨rfl, hbn⟩
    clear ga0 ga1 ga2 ga3 gb0 gb1 gb2 gb3
    replace hb := seqB hb hbn
    replace BA := be_boxL BA hbn
    replace BB := be_boxL BB hbn
    clear hbn
    have ga0 : v28.cell? ⟨w1.heap.size, 0, none⟩ = some (.int .i64 a0) := boxcellL BA 0
    have ga1 : v28.cell? ⟨w1.heap.size, 1, none⟩ = some (.int .i64 a1) := boxcellL BA 1
    have ga2 : v28.cell? ⟨w1.heap.size, 2, none⟩ = some (.int .i64 a2) := boxcellL BA 2
    have ga3 : v28.cell? ⟨w1.heap.size, 3, none⟩ = some (.int .i64 a3) := boxcellL BA 3
    have gb0 : v28.cell? ⟨w1.heap.size + 1, 0, none⟩ = some (.int .i64 b0) := boxcellL BB 0
    have gb1 : v28.cell? ⟨w1.heap.size + 1, 1, none⟩ = some (.int .i64 b1) := boxcellL BB 1
    have gb2 : v28.cell? ⟨w1.heap.size + 1, 2, none⟩ = some (.int .i64 b2) := boxcellL BB 2
    have gb3 : v28.cell? ⟨w1.heap.size + 1, 3, none⟩ = some (.int .i64 b3) := boxcellL BB 3
    go_wp2_with fail
    refine (aliveC _).mono ?_
    rintro e z9 ⟨rfl, hbn⟩
    replace hb := seqB hb hbn
    go_wp2_with fail
    go_ret
    exact ⟨ret_bool (by simp), hb⟩
end Go.Proofs.YtdlphgknplomkaaDoor.lEL
