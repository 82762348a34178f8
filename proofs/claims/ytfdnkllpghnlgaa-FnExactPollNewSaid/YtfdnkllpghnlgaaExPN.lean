/- The walk of FnExactPollNew: it returns true, and writes nothing that was there. -/
import Derived.Test.YtfdnkllpghnlgaaPolN
namespace Go.Proofs.Ytfdnkllpghnlgaa.exPN
open Go.RowKit Go.Proofs.Ytfdnkllpghnlgaa

set_option maxHeartbeats 2000000 in
theorem walk (w : World) :
    Calls Try.prog 3 #[] w fun e w' => e = .returned (.bool true) ∧ Below w.heap.size w w' := by
  have hb : Below w.heap.size w w := Below.refl _ _
  go_enter Try.func3, Try.ntmps3
  go_wp2_with fail
  refine (specPN _).mono ?_
  rintro e w1 ⟨rfl, hbn⟩
  replace hb := seqB hb hbn
  clear hbn
  go_wp2_with fail
  have hbo : Below w1.heap.size w1 (w1.alloc (.cells #[.int .i64 0, .slice none 0 0, .int .i64 1, .slice none 0 0, .int .i64 (-1), .int .i64 (-1), .int .i64 (-1), .int .i64 (-1)] 24)) := allocB (Below.refl _ _) _
  have h1 : Hid ((w1.alloc (.cells #[.int .i64 0, .slice none 0 0, .int .i64 1, .slice none 0 0, .int .i64 (-1), .int .i64 (-1), .int .i64 (-1), .int .i64 (-1)] 24)).heap[w1.heap.size]? = some (.cells #[.int .i64 0, .slice none 0 0, .int .i64 1, .slice none 0 0, .int .i64 (-1), .int .i64 (-1), .int .i64 (-1), .int .i64 (-1)] 24 (0, 0))) := heap_alloc_new w1 _
  have hz_h1 : w1.heap.size < (w1.alloc (.cells #[.int .i64 0, .slice none 0 0, .int .i64 1, .slice none 0 0, .int .i64 (-1), .int .i64 (-1), .int .i64 (-1), .int .i64 (-1)] 24)).heap.size := by simp
  replace hb := seqB hb hbo
  clear hbo
  refine (implPN _).mono ?_
  rintro e w2 ⟨rfl, hbn⟩
  replace hb := seqB hb hbn
  replace h1 := Lib.hid ((hbn.block _ hz_h1).trans h1.out)
  replace hz_h1 := Nat.lt_of_lt_of_le hz_h1 hbn.size
  clear hbn
  have p0 := box_cell h1 0
  have p1 := box_cell h1 1
  have p2 := box_cell h1 2
  have p3 := box_cell h1 3
  have p4 := box_cell h1 4
  have p5 := box_cell h1 5
  have p6 := box_cell h1 6
  have p7 := box_cell h1 7
  simp at p0 p1 p2 p3 p4 p5 p6 p7
  go_wp2_with fail
  have hbo : Below w2.heap.size w2 (w2.alloc (.cells #[.int .i64 0, .slice none 0 0, .int .i64 1, .slice none 0 0, .int .i64 (-1), .int .i64 (-1), .int .i64 (-1), .int .i64 (-1)] 24)) := allocB (Below.refl _ _) _
  have h2 : Hid ((w2.alloc (.cells #[.int .i64 0, .slice none 0 0, .int .i64 1, .slice none 0 0, .int .i64 (-1), .int .i64 (-1), .int .i64 (-1), .int .i64 (-1)] 24)).heap[w2.heap.size]? = some (.cells #[.int .i64 0, .slice none 0 0, .int .i64 1, .slice none 0 0, .int .i64 (-1), .int .i64 (-1), .int .i64 (-1), .int .i64 (-1)] 24 (0, 0))) := heap_alloc_new w2 _
  have hz_h2 : w2.heap.size < (w2.alloc (.cells #[.int .i64 0, .slice none 0 0, .int .i64 1, .slice none 0 0, .int .i64 (-1), .int .i64 (-1), .int .i64 (-1), .int .i64 (-1)] 24)).heap.size := by simp
  replace hb := seqB hb hbo
  replace h1 := Lib.hid ((hbo.block _ hz_h1).trans h1.out)
  replace hz_h1 := Nat.lt_of_lt_of_le hz_h1 hbo.size
  clear hbo
  clear p0 p1 p2 p3 p4 p5 p6 p7
  refine (eqPoll_same 0 none none 0 0 0 [] 1 none none 0 0 0 [] (-1) (-1) (-1) (-1) _ rfl (by omega) Rd.nil rfl (by omega) Rd.nil Rd.nil Rd.nil).mono ?_
  rintro e w3 ⟨rfl, hbn⟩
  replace hb := seqB hb hbn
  replace h1 := Lib.hid ((hbn.block _ hz_h1).trans h1.out)
  replace hz_h1 := Nat.lt_of_lt_of_le hz_h1 hbn.size
  replace h2 := Lib.hid ((hbn.block _ hz_h2).trans h2.out)
  replace hz_h2 := Nat.lt_of_lt_of_le hz_h2 hbn.size
  clear hbn
  have p0 := box_cell h2 0
  have p1 := box_cell h2 1
  have p2 := box_cell h2 2
  have p3 := box_cell h2 3
  have p4 := box_cell h2 4
  have p5 := box_cell h2 5
  have p6 := box_cell h2 6
  have p7 := box_cell h2 7
  simp at p0 p1 p2 p3 p4 p5 p6 p7
  go_wp2_with fail
  refine (markPN _).mono ?_
  rintro e w4 ⟨rfl, hbn⟩
  replace hb := seqB hb hbn
  replace h1 := Lib.hid ((hbn.block _ hz_h1).trans h1.out)
  replace hz_h1 := Nat.lt_of_lt_of_le hz_h1 hbn.size
  replace h2 := Lib.hid ((hbn.block _ hz_h2).trans h2.out)
  replace hz_h2 := Nat.lt_of_lt_of_le hz_h2 hbn.size
  clear hbn
  clear p0 p1 p2 p3 p4 p5 p6 p7
  have p0 := box_cell h2 0
  have p1 := box_cell h2 1
  have p2 := box_cell h2 2
  have p3 := box_cell h2 3
  have p4 := box_cell h2 4
  have p5 := box_cell h2 5
  have p6 := box_cell h2 6
  have p7 := box_cell h2 7
  simp at p0 p1 p2 p3 p4 p5 p6 p7
  go_wp2_with fail
  refine (heldPN _).mono ?_
  rintro e w5 ⟨rfl, hbn⟩
  replace hb := seqB hb hbn
  replace h1 := Lib.hid ((hbn.block _ hz_h1).trans h1.out)
  replace hz_h1 := Nat.lt_of_lt_of_le hz_h1 hbn.size
  replace h2 := Lib.hid ((hbn.block _ hz_h2).trans h2.out)
  replace hz_h2 := Nat.lt_of_lt_of_le hz_h2 hbn.size
  clear hbn
  clear p0 p1 p2 p3 p4 p5 p6 p7
  go_wp2_with fail
  refine (implPN _).mono ?_
  rintro e w6 ⟨rfl, hbn⟩
  replace hb := seqB hb hbn
  replace h1 := Lib.hid ((hbn.block _ hz_h1).trans h1.out)
  replace hz_h1 := Nat.lt_of_lt_of_le hz_h1 hbn.size
  replace h2 := Lib.hid ((hbn.block _ hz_h2).trans h2.out)
  replace hz_h2 := Nat.lt_of_lt_of_le hz_h2 hbn.size
  clear hbn
  have p0 := box_cell h1 0
  have p1 := box_cell h1 1
  have p2 := box_cell h1 2
  have p3 := box_cell h1 3
  have p4 := box_cell h1 4
  have p5 := box_cell h1 5
  have p6 := box_cell h1 6
  have p7 := box_cell h1 7
  simp at p0 p1 p2 p3 p4 p5 p6 p7
  go_wp2_with fail
  have hbo : Below w6.heap.size w6 (w6.alloc (.cells #[.int .i64 0, .slice none 0 0, .int .i64 1, .slice none 0 0, .int .i64 (-1), .int .i64 (-1), .int .i64 (-1), .int .i64 (-1)] 24)) := allocB (Below.refl _ _) _
  have h3 : Hid ((w6.alloc (.cells #[.int .i64 0, .slice none 0 0, .int .i64 1, .slice none 0 0, .int .i64 (-1), .int .i64 (-1), .int .i64 (-1), .int .i64 (-1)] 24)).heap[w6.heap.size]? = some (.cells #[.int .i64 0, .slice none 0 0, .int .i64 1, .slice none 0 0, .int .i64 (-1), .int .i64 (-1), .int .i64 (-1), .int .i64 (-1)] 24 (0, 0))) := heap_alloc_new w6 _
  have hz_h3 : w6.heap.size < (w6.alloc (.cells #[.int .i64 0, .slice none 0 0, .int .i64 1, .slice none 0 0, .int .i64 (-1), .int .i64 (-1), .int .i64 (-1), .int .i64 (-1)] 24)).heap.size := by simp
  replace hb := seqB hb hbo
  replace h1 := Lib.hid ((hbo.block _ hz_h1).trans h1.out)
  replace hz_h1 := Nat.lt_of_lt_of_le hz_h1 hbo.size
  replace h2 := Lib.hid ((hbo.block _ hz_h2).trans h2.out)
  replace hz_h2 := Nat.lt_of_lt_of_le hz_h2 hbo.size
  clear hbo
  clear p0 p1 p2 p3 p4 p5 p6 p7
  refine (eqPoll_same 0 none none 0 0 0 [] 1 none none 0 0 0 [] (-1) (-1) (-1) (-1) _ rfl (by omega) Rd.nil rfl (by omega) Rd.nil Rd.nil Rd.nil).mono ?_
  rintro e w7 ⟨rfl, hbn⟩
  replace hb := seqB hb hbn
  replace h1 := Lib.hid ((hbn.block _ hz_h1).trans h1.out)
  replace hz_h1 := Nat.lt_of_lt_of_le hz_h1 hbn.size
  replace h2 := Lib.hid ((hbn.block _ hz_h2).trans h2.out)
  replace hz_h2 := Nat.lt_of_lt_of_le hz_h2 hbn.size
  replace h3 := Lib.hid ((hbn.block _ hz_h3).trans h3.out)
  replace hz_h3 := Nat.lt_of_lt_of_le hz_h3 hbn.size
  clear hbn
  have p0 := box_cell h2 0
  have p1 := box_cell h2 1
  have p2 := box_cell h2 2
  have p3 := box_cell h2 3
  have p4 := box_cell h2 4
  have p5 := box_cell h2 5
  have p6 := box_cell h2 6
  have p7 := box_cell h2 7
  simp at p0 p1 p2 p3 p4 p5 p6 p7
  go_wp2_with fail
  refine (heldPN _).mono ?_
  rintro e w8 ⟨rfl, hbn⟩
  replace hb := seqB hb hbn
  replace h1 := Lib.hid ((hbn.block _ hz_h1).trans h1.out)
  replace hz_h1 := Nat.lt_of_lt_of_le hz_h1 hbn.size
  replace h2 := Lib.hid ((hbn.block _ hz_h2).trans h2.out)
  replace hz_h2 := Nat.lt_of_lt_of_le hz_h2 hbn.size
  replace h3 := Lib.hid ((hbn.block _ hz_h3).trans h3.out)
  replace hz_h3 := Nat.lt_of_lt_of_le hz_h3 hbn.size
  clear hbn
  clear p0 p1 p2 p3 p4 p5 p6 p7
  go_wp2_with fail
  go_ret
  exact ⟨rfl, hb⟩
end Go.Proofs.Ytfdnkllpghnlgaa.exPN
