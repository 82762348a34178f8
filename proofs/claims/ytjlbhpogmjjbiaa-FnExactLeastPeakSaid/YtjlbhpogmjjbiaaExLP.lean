/- The walk of FnExactLeastPeak: it returns true, and writes nothing that was there. -/
import Derived.Test.YtjlbhpogmjjbiaaExPO
namespace Go.Proofs.Ytjlbhpogmjjbiaa.exLP
open Go.RowKit Go.Proofs.Ytjlbhpogmjjbiaa

set_option maxHeartbeats 1000000 in
theorem walk (w : World) (s r l : Int) (A0 : Option Addr) (n0 c0 : Nat) (x0 : List Int) (hn0 : x0.length = n0) (hm0 : n0 ≤ maxLen) (hA0 : Rd w A0 (ints x0)) (_hw0 : ∀ x ∈ x0, (Lit.int .i64 x).wf = true) :
    Calls Try.prog 5 #[.agg #[.int .i64 s, .int .i64 r, .int .i64 l], .slice A0 n0 c0] w fun e w' => e = .returned (.bool true) ∧ Below w.heap.size w w' := by
  unfold maxLen at hm0
  have HA0 := Lib.hid hA0; clear hA0
  have HN0 := Lib.hid hn0; clear hn0
  have hb : Below w.heap.size w (w.alloc (.cells #[.int .i64 s, .int .i64 r, .int .i64 l] 23)) := allocB (Below.refl _ _) _
  have hbox : Hid ((w.alloc (.cells #[.int .i64 s, .int .i64 r, .int .i64 l] 23)).heap[w.heap.size]? = some (.cells #[.int .i64 s, .int .i64 r, .int .i64 l] 23 (0, 0))) := heap_alloc_new w _
  have hz_hbox : w.heap.size < (w.alloc (.cells #[.int .i64 s, .int .i64 r, .int .i64 l] 23)).heap.size := by simp
  by_cases hs0 : n0 ≤ 1048576
  case neg =>
    go_enter Try.func5, Try.ntmps5
    go_wp2_with fail
    go_ret
    exact ⟨rfl, hb⟩
  go_enter Try.func5, Try.ntmps5
  go_wp2_with fail
  refine (toBat _ _ _ _).mono ?_
  rintro e w1 ⟨rfl, hbn⟩
  replace hb := seqB hb hbn
  replace hbox := Lib.hid ((hbn.block _ hz_hbox).trans hbox.out)
  replace hz_hbox := Nat.lt_of_lt_of_le hz_hbox hbn.size
  clear hbn
  go_wp2_with fail
  refine (toIntS_any A0 n0 c0 x0 _ HN0.out hs0 (HA0.out.below hb)).mono ?_
  rintro e w2 ⟨rfl, ho1, hbn⟩
  replace hb := seqB hb hbn
  replace hbox := Lib.hid ((hbn.block _ hz_hbox).trans hbox.out)
  replace hz_hbox := Nat.lt_of_lt_of_le hz_hbox hbn.size
  clear hbn
  go_wp2_with fail
  refine (specLP _ n0 n0 s r l x0 _ HN0.out hs0 ho1.rd).mono ?_
  rintro e w3 ⟨rfl, hbn⟩
  replace hb := seqB hb hbn
  replace hbox := Lib.hid ((hbn.block _ hz_hbox).trans hbox.out)
  replace hz_hbox := Nat.lt_of_lt_of_le hz_hbox hbn.size
  replace ho1 := ho1.below hbn
  clear hbn
  clear ho1
  generalize hV : leastV s r l x0 = V
  have HV := Lib.hid hV; clear hV
  have hne : (V != V) = false := by simp
  go_wp2_with fail
  refine (toIntS_any A0 n0 c0 x0 _ HN0.out hs0 (HA0.out.below hb)).mono ?_
  rintro e w4 ⟨rfl, ho1, hbn⟩
  replace hb := seqB hb hbn
  replace hbox := Lib.hid ((hbn.block _ hz_hbox).trans hbox.out)
  replace hz_hbox := Nat.lt_of_lt_of_le hz_hbox hbn.size
  clear hbn
  obtain ⟨g0, g1, g2⟩ := cells3 hbox.out
  go_wp2_with fail
  refine (toBat _ _ _ _).mono ?_
  rintro e w5 ⟨rfl, hbn⟩
  replace hb := seqB hb hbn
  replace hbox := Lib.hid ((hbn.block _ hz_hbox).trans hbox.out)
  replace hz_hbox := Nat.lt_of_lt_of_le hz_hbox hbn.size
  replace ho1 := ho1.below hbn
  clear hbn
  clear g0 g1 g2
  clear hbox
  go_wp2_with fail
  refine (implLP _ n0 n0 s r l x0 _ HN0.out hs0 ho1.rd).mono ?_
  rintro e w6 ⟨rfl, hbn⟩
  replace hb := seqB hb hbn
  replace ho1 := ho1.below hbn
  clear hbn
  rw [HV.out]
  go_wp2_with fail
  refine (toIntS_any A0 n0 c0 x0 _ HN0.out hs0 (HA0.out.below hb)).mono ?_
  rintro e w7 ⟨rfl, ho3, hbn⟩
  replace hb := seqB hb hbn
  replace ho1 := ho1.below hbn
  clear hbn
  go_wp2_with fail
  refine (eqIntS_same _ _ n0 n0 n0 x0 _ HN0.out hs0 ho1.rd ho3.rd).mono ?_
  rintro e w8 ⟨rfl, qw8, rfl⟩
  have hbn := drewB w7 qw8
  generalize w7.drewN qw8 = w8 at *
  replace hb := seqB hb hbn
  replace ho1 := ho1.below hbn
  replace ho3 := ho3.below hbn
  clear hbn
  go_wp2_with fail
  go_ret
  exact ⟨rfl, hb⟩
end Go.Proofs.Ytjlbhpogmjjbiaa.exLP
