/- The walk of FnExactPeakOf: it returns true, and writes nothing that was there. -/
import Derived.Test.YtjlbhpogmjjbiaaBatM
namespace Go.Proofs.Ytjlbhpogmjjbiaa
open Go.RowKit
set_option maxHeartbeats 400000 in
theorem toBat (s r l : Int) (w : World) : Calls Try.prog 7 #[.agg #[.int .i64 s, .int .i64 r, .int .i64 l]] w fun e w' => e = .returned (.agg #[.int .i64 s, .int .i64 r, .int .i64 l]) ∧ Below w.heap.size w w' := by
  go_enter Try.func7, Try.ntmps7
  go_wp2
  exact bodyPost_ret (v := .agg #[.int .i64 s, .int .i64 r, .int .i64 l]) (by simp [results, Try.results7, go_sem]) rfl ⟨rfl, allocB (allocB (allocB (Below.refl _ _) _) _) _⟩
end Go.Proofs.Ytjlbhpogmjjbiaa
namespace Go.Proofs.Ytjlbhpogmjjbiaa.exPO
open Go.RowKit Go.Proofs.Ytjlbhpogmjjbiaa

set_option maxHeartbeats 1000000 in
theorem walk (w : World) (s r l : Int) (A0 : Option Addr) (n0 c0 : Nat) (x0 : List Int) (hn0 : x0.length = n0) (hm0 : n0 ≤ maxLen) (hA0 : Rd w A0 (ints x0)) (_hw0 : ∀ x ∈ x0, (Lit.int .i64 x).wf = true)
    (A1 : Option Addr) (n1 c1 : Nat) (x1 : List Int) (hn1 : x1.length = n1) (hm1 : n1 ≤ maxLen) (hA1 : Rd w A1 (ints x1)) (_hw1 : ∀ x ∈ x1, (Lit.int .i64 x).wf = true) :
    Calls Try.prog 3 #[.agg #[.int .i64 s, .int .i64 r, .int .i64 l], .slice A0 n0 c0, .slice A1 n1 c1] w fun e w' => e = .returned (.bool true) ∧ Below w.heap.size w w' := by
  unfold maxLen at hm0 hm1
  have HA0 := Lib.hid hA0; clear hA0
  have HN0 := Lib.hid hn0; clear hn0
  have HA1 := Lib.hid hA1; clear hA1
  have HN1 := Lib.hid hn1; clear hn1
  have hb : Below w.heap.size w (w.alloc (.cells #[.int .i64 s, .int .i64 r, .int .i64 l] 23)) := allocB (Below.refl _ _) _
  have hbox : Hid ((w.alloc (.cells #[.int .i64 s, .int .i64 r, .int .i64 l] 23)).heap[w.heap.size]? = some (.cells #[.int .i64 s, .int .i64 r, .int .i64 l] 23 (0, 0))) := heap_alloc_new w _
  have hz : w.heap.size < (w.alloc (.cells #[.int .i64 s, .int .i64 r, .int .i64 l] 23)).heap.size := by simp
  by_cases hs0 : n0 ≤ 1048576
  case neg =>
    go_enter Try.func3, Try.ntmps3
    go_wp2_with fail
    go_ret
    exact ⟨rfl, hb⟩
  by_cases hs1 : n1 ≤ 1048576
  case neg =>
    go_enter Try.func3, Try.ntmps3
    go_wp2_with fail
    go_ret
    exact ⟨rfl, hb⟩
  go_enter Try.func3, Try.ntmps3
  go_wp2_with fail
  refine (toBat _ _ _ _).mono ?_
  rintro e w1 ⟨rfl, hbn⟩
  replace hb := seqB hb hbn
  replace hbox := Lib.hid ((hbn.block _ hz).trans hbox.out)
  replace hz := Nat.lt_of_lt_of_le hz hbn.size
  clear hbn
  go_wp2_with fail
  refine (toIntS_any A0 n0 c0 x0 _ HN0.out hs0 (HA0.out.below hb)).mono ?_
  rintro e w2 ⟨rfl, ho1, hbn⟩
  replace hb := seqB hb hbn
  replace hbox := Lib.hid ((hbn.block _ hz).trans hbox.out)
  replace hz := Nat.lt_of_lt_of_le hz hbn.size
  clear hbn
  go_wp2_with fail
  refine (toIntS_any A1 n1 c1 x1 _ HN1.out hs1 (HA1.out.below hb)).mono ?_
  rintro e w3 ⟨rfl, ho2, hbn⟩
  replace hb := seqB hb hbn
  replace ho1 := ho1.below hbn
  replace hbox := Lib.hid ((hbn.block _ hz).trans hbox.out)
  replace hz := Nat.lt_of_lt_of_le hz hbn.size
  clear hbn
  go_wp2_with fail
  refine (specPO _ _ n0 n0 n1 n1 s r l x0 x1 _ HN0.out HN1.out hs0 hs1 ho1.rd ho2.rd).mono ?_
  rintro e w4 ⟨rfl, hbn⟩
  replace hb := seqB hb hbn
  replace hbox := Lib.hid ((hbn.block _ hz).trans hbox.out)
  replace hz := Nat.lt_of_lt_of_le hz hbn.size
  clear hbn ho1 ho2
  generalize hV : peakV s r l x0 x1 = V
  have HV := Lib.hid hV; clear hV
  have hne : (V != V) = false := by simp
  go_wp2_with fail
  refine (toIntS_any A0 n0 c0 x0 _ HN0.out hs0 (HA0.out.below hb)).mono ?_
  rintro e w5 ⟨rfl, ho1, hbn⟩
  replace hb := seqB hb hbn
  replace hbox := Lib.hid ((hbn.block _ hz).trans hbox.out)
  replace hz := Nat.lt_of_lt_of_le hz hbn.size
  clear hbn
  go_wp2_with fail
  refine (toIntS_any A1 n1 c1 x1 _ HN1.out hs1 (HA1.out.below hb)).mono ?_
  rintro e w6 ⟨rfl, ho2, hbn⟩
  replace hb := seqB hb hbn
  replace ho1 := ho1.below hbn
  replace hbox := Lib.hid ((hbn.block _ hz).trans hbox.out)
  replace hz := Nat.lt_of_lt_of_le hz hbn.size
  clear hbn
  obtain ⟨g0, g1, g2⟩ := cells3 hbox.out
  go_wp2_with fail
  refine (toBat _ _ _ _).mono ?_
  rintro e w7 ⟨rfl, hbn⟩
  replace hb := seqB hb hbn
  replace ho1 := ho1.below hbn
  replace ho2 := ho2.below hbn
  clear hbn g0 g1 g2 hbox hz
  go_wp2_with fail
  refine (implPO _ _ n0 n0 n1 n1 s r l x0 x1 _ HN0.out HN1.out hs0 hs1 ho1.rd ho2.rd).mono ?_
  rintro e w8 ⟨rfl, hbn⟩
  rw [HV.out]
  replace hb := seqB hb hbn
  replace ho1 := ho1.below hbn
  replace ho2 := ho2.below hbn
  clear hbn
  go_wp2_with fail
  refine (toIntS_any A0 n0 c0 x0 _ HN0.out hs0 (HA0.out.below hb)).mono ?_
  rintro e w9 ⟨rfl, ho3, hbn⟩
  replace hb := seqB hb hbn
  replace ho1 := ho1.below hbn
  replace ho2 := ho2.below hbn
  clear hbn
  go_wp2_with fail
  refine (eqIntS_same _ _ n0 n0 n0 x0 _ HN0.out hs0 ho1.rd ho3.rd).mono ?_
  rintro e w10 ⟨rfl, q, rfl⟩
  have hbn := drewB w9 q
  generalize w9.drewN q = w10 at *
  replace hb := seqB hb hbn
  replace ho2 := ho2.below hbn
  clear hbn ho1 ho3
  go_wp2_with fail
  refine (toIntS_any A1 n1 c1 x1 _ HN1.out hs1 (HA1.out.below hb)).mono ?_
  rintro e w11 ⟨rfl, ho3, hbn⟩
  replace hb := seqB hb hbn
  replace ho2 := ho2.below hbn
  clear hbn
  go_wp2_with fail
  refine (eqIntS_same _ _ n1 n1 n1 x1 _ HN1.out hs1 ho2.rd ho3.rd).mono ?_
  rintro e w12 ⟨rfl, q2, rfl⟩
  go_wp2_with fail
  go_ret
  exact ⟨rfl, drewNB hb _⟩
end Go.Proofs.Ytjlbhpogmjjbiaa.exPO
