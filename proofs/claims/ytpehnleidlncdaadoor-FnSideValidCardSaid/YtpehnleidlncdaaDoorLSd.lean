/- The walk of FnSideValid: it returns true, and writes nothing that was there. -/
import Derived.Test.YtpehnleidlncdaaDoorDrK
import Derived.Test.YtpehnleidlncdaaDoorLawI
namespace Go.Proofs.YtpehnleidlncdaaDoor.lSd
open Go.RowKit Go.Proofs.YtpehnleidlncdaaDoor

set_option maxHeartbeats 2000000 in
theorem walk (w : World) (A : Option Addr) (m c : Nat) (hc : m ≤ c) (hm : m ≤ maxLen) (hA : RdB w A m) :
    Calls Tryd.prog 3 #[.slice A m c] w fun e w' => e = .returned (.bool true) ∧ Below w.heap.size w w' := by
  unfold maxLen at hm
  by_cases hs : m ≤ 1048576
  case neg =>
    go_enter Tryd.func3, Tryd.ntmps3
    go_wp2_with fail
    go_ret
    exact ⟨rfl, Below.refl _ _⟩
  have HA := Lib.hid hA; clear hA
  have hb : Below w.heap.size w w := Below.refl _ _
  go_enter Tryd.func3, Tryd.ntmps3
  obtain ⟨i0, hi0, hz0, hz1, hz2⟩ := info_parts info_Order
  have HI := Lib.hid (And.intro hi0 (And.intro hz0 (And.intro hz1 hz2))); clear hi0 hz0 hz1 hz2
  go_wp2_with fail
  refine (dDrawSideValid A m c w hc hs HA.out).mono ?_
  rintro e w1 ⟨xs, B, d, rfl, hl, hF, ho, hbn⟩
  replace hb := seqB hb hbn
  clear hbn
  have hn : xs.length ≤ 1048576 := by omega
  go_wp2_with fail
  refine (implSdV _ _ _ xs _ rfl hn ho.rd).mono ?_
  rintro e w2 ⟨rfl, hbn⟩
  replace hb := seqB hb hbn
  replace ho := ho.below hbn
  clear hbn
  generalize hV : valOrder xs = b at *
  have HV := Lib.hid hV; clear hV
  have hne : (b != b) = false := by simp
  go_wp2_with fail
  refine (specSdV _ _ _ xs _ rfl hn ho.rd).mono ?_
  rintro e w3 ⟨rfl, qw3, rfl⟩
  have hbn := drewB w2 qw3
  generalize w2.drewN qw3 = w3 at *
  replace hb := seqB hb hbn
  replace ho := ho.below hbn
  clear hbn
  rw [HV.out]
  cases b with
  | false =>
    have hlit : (w3.alloc (.cells #[] 27)).ownsRow w.heap.size 27 2 (.slice (some ⟨w3.heap.size, 0, none⟩) 0 0) 0 [] := World.ownsRow_lit w3 #[] 0 hb.size (Nat.zero_le _) rfl
    have hrd : Rd (w3.alloc (.cells #[] 27)) B (flatOrder xs) := ho.rd.below (allocB (Below.refl _ _) _)
    replace hb := allocB hb (.cells #[] 27)
    go_wp2_with (first | (at_builtin; refine wpList_appN _ rfl _ _ _ rfl w.heap.size 27 i0 _ 2 16 Tryd.underlying23 HI.out rfl (by omega) _ 0 _ rfl hlit B xs.length d (flatOrder xs) rfl (flatOrder_length _) hrd (fun e => fm_nil hF e) (flatOrder_one _) (by omega) (by omega) (by have := hb.size; omega) ?_; intro v1 wv1 hown1 hg1; replace hb := grown_row hb rfl hlit hg1; clear hlit hrd hg1 ho; have hz1 := hb.size; have hrd2 : Rd (wv1.alloc (.cells #[.int .i64 0, .int .i64 0] 27)) (some ⟨wv1.heap.size, 0, none⟩) [.int .i64 0, .int .i64 0] := (own_new rfl 27 [.int .i64 0, .int .i64 0] 1 2 rfl).rd; replace hown1 := hown1.alloc (.cells #[.int .i64 0, .int .i64 0] 27); replace hb := allocB hb (.cells #[.int .i64 0, .int .i64 0] 27)) | (at_builtin; refine wpList_appN _ rfl _ _ _ rfl w.heap.size 27 i0 _ 2 16 Tryd.underlying23 HI.out rfl (by omega) v1 _ _ rfl hown1 (some ⟨wv1.heap.size, 0, none⟩) 1 1 [.int .i64 0, .int .i64 0] rfl rfl hrd2 (fun e => by cases e) (by simp [Value.oneCell']) (by omega) (by omega) (by have := hb.size; omega) ?_; intro v2 wv2 hown2 hg2))
    replace hb := grown_row hb rfl hown1 hg2
    clear hown1 hrd2 hg2
    obtain ⟨B2, d2, rfl, hr2⟩ := row_is (n' := (xs ++ [(⟨0, 0⟩ : Order)]).length) (cs' := flatOrder (xs ++ [(⟨0, 0⟩ : Order)])) hown2 (by simp) (by rw [flatOrder_snoc]; rfl)
    clear hown2
    refine (implSdV _ _ _ (xs ++ [(⟨0, 0⟩ : Order)]) _ rfl (by first | (simp; done) | (simp; omega)) (rd_of_row hr2)).mono ?_
    rintro e w9 ⟨rfl, hbn⟩
    replace hb := seqB hb hbn
    clear hbn
    rw [valOrder_bad]
    go_wp2_with fail
    refine (implSdV none 0 0 [] _ rfl (by omega) Rd.nil).mono ?_
    rintro e w4 ⟨rfl, hbn⟩
    replace hb := seqB hb hbn
    clear hbn
    rw [valOrder_nil]
    go_wp2_with fail
    refine (aliveC _).mono ?_
    rintro e w5 ⟨rfl, hbn⟩
    replace hb := seqB hb hbn
    clear hbn
    go_wp2_with fail
    go_ret
    exact ⟨ret_bool (by simp), hb⟩
  | true =>
    by_cases h0 : xs.length = 0
    · have h0' : ((xs.length : Int) == 0) = true := by simp [h0]
      obtain rfl : xs = [] := List.eq_nil_of_length_eq_zero h0
      clear h0 h0'
      have hlit : (w3.alloc (.cells #[] 27)).ownsRow w.heap.size 27 2 (.slice (some ⟨w3.heap.size, 0, none⟩) 0 0) 0 [] := World.ownsRow_lit w3 #[] 0 hb.size (Nat.zero_le _) rfl
      have hrd : Rd (w3.alloc (.cells #[] 27)) B (flatOrder ([] : List Order)) := ho.rd.below (allocB (Below.refl _ _) _)
      replace hb := allocB hb (.cells #[] 27)
      go_wp2_with (first | (at_builtin; refine wpList_appN _ rfl _ _ _ rfl w.heap.size 27 i0 _ 2 16 Tryd.underlying23 HI.out rfl (by omega) _ 0 _ rfl hlit B 0 d (flatOrder ([] : List Order)) rfl (flatOrder_length _) hrd (fun e => fm_nil hF e) (flatOrder_one _) (by omega) (by omega) (by have := hb.size; omega) ?_; intro v1 wv1 hown1 hg1; replace hb := grown_row hb rfl hlit hg1; clear hlit hrd hg1 ho; have hz1 := hb.size; have hrd2 : Rd (wv1.alloc (.cells #[.int .i64 0, .int .i64 0] 27)) (some ⟨wv1.heap.size, 0, none⟩) [.int .i64 0, .int .i64 0] := (own_new rfl 27 [.int .i64 0, .int .i64 0] 1 2 rfl).rd; replace hown1 := hown1.alloc (.cells #[.int .i64 0, .int .i64 0] 27); replace hb := allocB hb (.cells #[.int .i64 0, .int .i64 0] 27)) | (at_builtin; refine wpList_appN _ rfl _ _ _ rfl w.heap.size 27 i0 _ 2 16 Tryd.underlying23 HI.out rfl (by omega) v1 _ _ rfl hown1 (some ⟨wv1.heap.size, 0, none⟩) 1 1 [.int .i64 0, .int .i64 0] rfl rfl hrd2 (fun e => by cases e) (by simp [Value.oneCell']) (by omega) (by omega) (by have := hb.size; omega) ?_; intro v2 wv2 hown2 hg2))
      replace hb := grown_row hb rfl hown1 hg2
      clear hown1 hrd2 hg2
      obtain ⟨B2, d2, rfl, hr2⟩ := row_is (n' := (([] : List Order) ++ [(⟨0, 0⟩ : Order)]).length) (cs' := flatOrder (([] : List Order) ++ [(⟨0, 0⟩ : Order)])) hown2 (by simp) (by rw [flatOrder_snoc]; rfl)
      clear hown2
      refine (implSdV _ _ _ (([] : List Order) ++ [(⟨0, 0⟩ : Order)]) _ rfl (by first | (simp; done) | (simp; omega)) (rd_of_row hr2)).mono ?_
      rintro e w9 ⟨rfl, hbn⟩
      replace hb := seqB hb hbn
      clear hbn
      rw [valOrder_bad]
      go_wp2_with fail
      refine (implSdV none 0 0 [] _ rfl (by omega) Rd.nil).mono ?_
      rintro e w4 ⟨rfl, hbn⟩
      replace hb := seqB hb hbn
      clear hbn
      rw [valOrder_nil]
      go_wp2_with fail
      refine (aliveC _).mono ?_
      rintro e w5 ⟨rfl, hbn⟩
      replace hb := seqB hb hbn
      clear hbn
      go_wp2_with fail
      go_ret
      exact ⟨ret_bool (by simp), hb⟩
    · have h0' : ((xs.length : Int) == 0) = false := beq_eq_false_iff_ne.2 (by omega)
      obtain ⟨hF1, ⟨rfl, rfl⟩ | ⟨g, rfl⟩⟩ := hF
      · exact absurd hF1 (by omega)
      have hF : Fm (some ⟨g, 0, none⟩) xs.length d := ⟨hF1, .inr ⟨g, rfl⟩⟩
      have hi2 : (xs.length : Int) ≤ (d : Int) := by omega
      have hi3 : (1 : Int) ≤ (xs.length : Int) := by omega
      have hi4 : (1 : Int) ≤ (d : Int) := by omega
      have hr1 : Hid (Rd w3 (some ⟨g, 0 + 1 * 2, none⟩) (flatOrder (xs.drop 1))) := flatOrder_drop ho.rd 1
      have ht := Lib.hid (valOrder_drop HV.out 1)
      by_cases hd1 : d = 1
      · skip
        have hx1 : xs.length = 1 := by omega
        subst hd1
        obtain ⟨y, rfl⟩ := List.length_eq_one_iff.1 hx1
        clear hx1
        go_wp2_with fail
        refine (implSdV _ _ _ ([y].drop 1) _ (by first | (simp; done) | (simp; omega)) (by omega) (by rw [List.drop_eq_nil_of_le (by simp)]; exact Rd.nil)).mono ?_
        rintro e w4 ⟨rfl, hbn⟩
        replace hb := seqB hb hbn
        replace ho := ho.below hbn
        clear hbn
        rw [ht.out]
        clear hr1
        have hlit : (w4.alloc (.cells #[] 27)).ownsRow w.heap.size 27 2 (.slice (some ⟨w4.heap.size, 0, none⟩) 0 0) 0 [] := World.ownsRow_lit w4 #[] 0 hb.size (Nat.zero_le _) rfl
        have hrd : Rd (w4.alloc (.cells #[] 27)) (some ⟨g, 0, none⟩) (flatOrder [y]) := ho.rd.below (allocB (Below.refl _ _) _)
        replace hb := allocB hb (.cells #[] 27)
        go_wp2_with (first | (at_builtin; refine wpList_appN _ rfl _ _ _ rfl w.heap.size 27 i0 _ 2 16 Tryd.underlying23 HI.out rfl (by omega) _ 0 _ rfl hlit (some ⟨g, 0, none⟩) 1 1 (flatOrder [y]) rfl (flatOrder_length _) hrd (fun e => fm_nil hF e) (flatOrder_one _) (by omega) (by omega) (by have := hb.size; omega) ?_; intro v1 wv1 hown1 hg1; replace hb := grown_row hb rfl hlit hg1; clear hlit hrd hg1 ho; have hz1 := hb.size; have hrd2 : Rd (wv1.alloc (.cells #[.int .i64 0, .int .i64 0] 27)) (some ⟨wv1.heap.size, 0, none⟩) [.int .i64 0, .int .i64 0] := (own_new rfl 27 [.int .i64 0, .int .i64 0] 1 2 rfl).rd; replace hown1 := hown1.alloc (.cells #[.int .i64 0, .int .i64 0] 27); replace hb := allocB hb (.cells #[.int .i64 0, .int .i64 0] 27)) | (at_builtin; refine wpList_appN _ rfl _ _ _ rfl w.heap.size 27 i0 _ 2 16 Tryd.underlying23 HI.out rfl (by omega) v1 _ _ rfl hown1 (some ⟨wv1.heap.size, 0, none⟩) 1 1 [.int .i64 0, .int .i64 0] rfl rfl hrd2 (fun e => by cases e) (by simp [Value.oneCell']) (by omega) (by omega) (by have := hb.size; omega) ?_; intro v2 wv2 hown2 hg2))
        replace hb := grown_row hb rfl hown1 hg2
        clear hown1 hrd2 hg2
        obtain ⟨B2, d2, rfl, hr2⟩ := row_is (n' := ([y] ++ [(⟨0, 0⟩ : Order)]).length) (cs' := flatOrder ([y] ++ [(⟨0, 0⟩ : Order)])) hown2 (by simp) (by rw [flatOrder_snoc]; rfl)
        clear hown2
        refine (implSdV _ _ _ ([y] ++ [(⟨0, 0⟩ : Order)]) _ rfl (by first | (simp; done) | (simp; omega)) (rd_of_row hr2)).mono ?_
        rintro e w9 ⟨rfl, hbn⟩
        replace hb := seqB hb hbn
        clear hbn
        rw [valOrder_bad]
        go_wp2_with fail
        refine (implSdV none 0 0 [] _ rfl (by omega) Rd.nil).mono ?_
        rintro e w5 ⟨rfl, hbn⟩
        replace hb := seqB hb hbn
        clear hbn
        rw [valOrder_nil]
        go_wp2_with fail
        refine (aliveC _).mono ?_
        rintro e w6 ⟨rfl, hbn⟩
        replace hb := seqB hb hbn
        clear hbn
        go_wp2_with fail
        go_ret
        exact ⟨ret_bool (by simp), hb⟩
      · skip
        go_wp2_with fail
        refine (implSdV _ _ _ (xs.drop 1) _ (by first | (simp; done) | (simp; omega)) (by omega) (by simpa using hr1.out)).mono ?_
        rintro e w4 ⟨rfl, hbn⟩
        replace hb := seqB hb hbn
        replace ho := ho.below hbn
        clear hbn
        rw [ht.out]
        clear hr1
        have hlit : (w4.alloc (.cells #[] 27)).ownsRow w.heap.size 27 2 (.slice (some ⟨w4.heap.size, 0, none⟩) 0 0) 0 [] := World.ownsRow_lit w4 #[] 0 hb.size (Nat.zero_le _) rfl
        have hrd : Rd (w4.alloc (.cells #[] 27)) (some ⟨g, 0, none⟩) (flatOrder xs) := ho.rd.below (allocB (Below.refl _ _) _)
        replace hb := allocB hb (.cells #[] 27)
        go_wp2_with (first | (at_builtin; refine wpList_appN _ rfl _ _ _ rfl w.heap.size 27 i0 _ 2 16 Tryd.underlying23 HI.out rfl (by omega) _ 0 _ rfl hlit (some ⟨g, 0, none⟩) xs.length d (flatOrder xs) rfl (flatOrder_length _) hrd (fun e => fm_nil hF e) (flatOrder_one _) (by omega) (by omega) (by have := hb.size; omega) ?_; intro v1 wv1 hown1 hg1; replace hb := grown_row hb rfl hlit hg1; clear hlit hrd hg1 ho; have hz1 := hb.size; have hrd2 : Rd (wv1.alloc (.cells #[.int .i64 0, .int .i64 0] 27)) (some ⟨wv1.heap.size, 0, none⟩) [.int .i64 0, .int .i64 0] := (own_new rfl 27 [.int .i64 0, .int .i64 0] 1 2 rfl).rd; replace hown1 := hown1.alloc (.cells #[.int .i64 0, .int .i64 0] 27); replace hb := allocB hb (.cells #[.int .i64 0, .int .i64 0] 27)) | (at_builtin; refine wpList_appN _ rfl _ _ _ rfl w.heap.size 27 i0 _ 2 16 Tryd.underlying23 HI.out rfl (by omega) v1 _ _ rfl hown1 (some ⟨wv1.heap.size, 0, none⟩) 1 1 [.int .i64 0, .int .i64 0] rfl rfl hrd2 (fun e => by cases e) (by simp [Value.oneCell']) (by omega) (by omega) (by have := hb.size; omega) ?_; intro v2 wv2 hown2 hg2))
        replace hb := grown_row hb rfl hown1 hg2
        clear hown1 hrd2 hg2
        obtain ⟨B2, d2, rfl, hr2⟩ := row_is (n' := (xs ++ [(⟨0, 0⟩ : Order)]).length) (cs' := flatOrder (xs ++ [(⟨0, 0⟩ : Order)])) hown2 (by simp) (by rw [flatOrder_snoc]; rfl)
        clear hown2
        refine (implSdV _ _ _ (xs ++ [(⟨0, 0⟩ : Order)]) _ rfl (by first | (simp; done) | (simp; omega)) (rd_of_row hr2)).mono ?_
        rintro e w9 ⟨rfl, hbn⟩
        replace hb := seqB hb hbn
        clear hbn
        rw [valOrder_bad]
        go_wp2_with fail
        refine (implSdV none 0 0 [] _ rfl (by omega) Rd.nil).mono ?_
        rintro e w5 ⟨rfl, hbn⟩
        replace hb := seqB hb hbn
        clear hbn
        rw [valOrder_nil]
        go_wp2_with fail
        refine (aliveC _).mono ?_
        rintro e w6 ⟨rfl, hbn⟩
        replace hb := seqB hb hbn
        clear hbn
        go_wp2_with fail
        go_ret
        exact ⟨ret_bool (by simp), hb⟩
end Go.Proofs.YtpehnleidlncdaaDoor.lSd
