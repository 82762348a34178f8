/- The walk of FnSamplesValid: it returns true, and writes nothing that was there. -/
import Derived.Test.YtanogghchmjkgaaDoorDrN
import Derived.Test.YtanogghchmjkgaaDoorLawI
import Derived.Test.YtanogghchmjkgaaDoorSmpL
import Derived.Test.YtanogghchmjkgaaDoorLRd
namespace Go.Proofs.YtanogghchmjkgaaDoor.lSV
open Go.RowKit Go.Proofs.YtanogghchmjkgaaDoor

set_option maxHeartbeats 2000000 in
theorem walk (w : World) (A : Option Addr) (m c : Nat) (hc : m ≤ c) (hm : m ≤ maxLen) (hA : RdB w A m) :
    Calls Tryd.prog 5 #[.slice A m c] w fun e w' => e = .returned (.bool true) ∧ Below w.heap.size w w' := by
  unfold maxLen at hm
  by_cases hs : m ≤ 1048576
  case neg =>
    go_enter Tryd.func5, Tryd.ntmps5
    go_wp2_with fail
    go_ret
    exact ⟨rfl, Below.refl _ _⟩
  have HA := Lib.hid hA; clear hA
  have hb : Below w.heap.size w w := Below.refl _ _
  go_enter Tryd.func5, Tryd.ntmps5
  obtain ⟨i0, hi0, hz0, hz1, hz2⟩ := info_parts info_int
  have HI := Lib.hid (And.intro hi0 (And.intro hz0 (And.intro hz1 hz2))); clear hi0 hz0 hz1 hz2
  go_wp2_with fail
  refine (dDrawSamplesValid A m c w hc hs HA.out).mono ?_
  rintro e w1 ⟨xs, B, d, rfl, hl, hF, ho, hbn⟩
  replace hb := seqB hb hbn
  clear hbn
  have hn : xs.length ≤ 1048576 := by omega
  go_wp2_with fail
  refine (implSV _ _ _ xs _ rfl hn ho.rd).mono ?_
  rintro e w' ⟨rfl, rfl⟩
  generalize hV : smpB xs = b at *
  have HV := Lib.hid hV; clear hV
  have hne : (b != b) = false := by simp
  go_wp2_with fail
  refine (specSV _ _ _ xs _ rfl hn ho.rd).mono ?_
  rintro e w' ⟨rfl, rfl⟩
  rw [HV.out]
  cases b with
  | false =>
    have hlit : (w1.alloc (.cells #[] 3)).ownsRow w.heap.size 3 1 (.slice (some ⟨w1.heap.size, 0, none⟩) 0 0) 0 [] := World.ownsRow_lit w1 #[] 0 hb.size (Nat.zero_le _) rfl
    have hrd : Rd (w1.alloc (.cells #[] 3)) B (ints xs) := ho.rd.below (allocB (Below.refl _ _) _)
    replace hb := allocB hb (.cells #[] 3)
    go_wp2_with (first | (at_builtin; refine wpList_appN _ rfl _ _ _ rfl w.heap.size 3 i0 _ 1 8 Tryd.underlying26 HI.out rfl (by omega) _ 0 _ rfl hlit B xs.length d (ints xs) rfl (by simp [ints]) hrd (fun e => fm_nil hF e) (by simp [ints, Value.oneCell']) (by omega) (by omega) (by have := hb.size; omega) ?_; intro v1 wv1 hown1 hg1; replace hb := grown_row hb rfl hlit hg1; clear hlit hrd hg1 ho; have hz1 := hb.size; have hrd2 : Rd (wv1.alloc (.cells #[.int .i64 (-1)] 3)) (some ⟨wv1.heap.size, 0, none⟩) [.int .i64 (-1)] := (own_new rfl 3 [.int .i64 (-1)] 1 1 rfl).rd; replace hown1 := hown1.alloc (.cells #[.int .i64 (-1)] 3); replace hb := allocB hb (.cells #[.int .i64 (-1)] 3)) | (at_builtin; refine wpList_appN _ rfl _ _ _ rfl w.heap.size 3 i0 _ 1 8 Tryd.underlying26 HI.out rfl (by omega) v1 _ _ rfl hown1 (some ⟨wv1.heap.size, 0, none⟩) 1 1 [.int .i64 (-1)] rfl rfl hrd2 (fun e => by cases e) (by simp [Value.oneCell']) (by omega) (by omega) (by have := hb.size; omega) ?_; intro v2 wv2 hown2 hg2))
    replace hb := grown_row hb rfl hown1 hg2
    clear hown1 hrd2 hg2
    obtain ⟨B2, d2, rfl, hr2⟩ := row_is (n' := (xs ++ [(-1 : Int)]).length) (cs' := ints (xs ++ [(-1 : Int)])) hown2 (by simp) (by simp [ints])
    clear hown2
    refine (implSV _ _ _ (xs ++ [(-1 : Int)]) _ rfl (by first | (simp; done) | (simp; omega)) (rd_of_row hr2)).mono ?_
    rintro e w' ⟨rfl, rfl⟩
    rw [smp_neg]
    go_wp2_with fail
    refine (aliveC _).mono ?_
    rintro e w2 ⟨rfl, hbn⟩
    replace hb := seqB hb hbn
    clear hbn
    go_wp2_with fail
    go_ret
    exact ⟨ret_bool (by simp), hb⟩
  | true =>
    by_cases h0 : xs.length = 0
    · have h0' : ((xs.length : Int) == 0) = true := by simp [h0]
      obtain rfl : xs = [] := List.eq_nil_of_length_eq_zero h0
      clear h0 h0'
      have hlit : (w1.alloc (.cells #[] 3)).ownsRow w.heap.size 3 1 (.slice (some ⟨w1.heap.size, 0, none⟩) 0 0) 0 [] := World.ownsRow_lit w1 #[] 0 hb.size (Nat.zero_le _) rfl
      have hrd : Rd (w1.alloc (.cells #[] 3)) B (ints ([] : List Int)) := ho.rd.below (allocB (Below.refl _ _) _)
      replace hb := allocB hb (.cells #[] 3)
      go_wp2_with (first | (at_builtin; refine wpList_appN _ rfl _ _ _ rfl w.heap.size 3 i0 _ 1 8 Tryd.underlying26 HI.out rfl (by omega) _ 0 _ rfl hlit B 0 d (ints ([] : List Int)) rfl (by simp [ints]) hrd (fun e => fm_nil hF e) (by simp [ints, Value.oneCell']) (by omega) (by omega) (by have := hb.size; omega) ?_; intro v1 wv1 hown1 hg1; replace hb := grown_row hb rfl hlit hg1; clear hlit hrd hg1 ho; have hz1 := hb.size; have hrd2 : Rd (wv1.alloc (.cells #[.int .i64 (-1)] 3)) (some ⟨wv1.heap.size, 0, none⟩) [.int .i64 (-1)] := (own_new rfl 3 [.int .i64 (-1)] 1 1 rfl).rd; replace hown1 := hown1.alloc (.cells #[.int .i64 (-1)] 3); replace hb := allocB hb (.cells #[.int .i64 (-1)] 3)) | (at_builtin; refine wpList_appN _ rfl _ _ _ rfl w.heap.size 3 i0 _ 1 8 Tryd.underlying26 HI.out rfl (by omega) v1 _ _ rfl hown1 (some ⟨wv1.heap.size, 0, none⟩) 1 1 [.int .i64 (-1)] rfl rfl hrd2 (fun e => by cases e) (by simp [Value.oneCell']) (by omega) (by omega) (by have := hb.size; omega) ?_; intro v2 wv2 hown2 hg2))
      replace hb := grown_row hb rfl hown1 hg2
      clear hown1 hrd2 hg2
      obtain ⟨B2, d2, rfl, hr2⟩ := row_is (n' := (([] : List Int) ++ [(-1 : Int)]).length) (cs' := ints (([] : List Int) ++ [(-1 : Int)])) hown2 (by simp) (by simp [ints])
      clear hown2
      refine (implSV _ _ _ (([] : List Int) ++ [(-1 : Int)]) _ rfl (by first | (simp; done) | (simp; omega)) (rd_of_row hr2)).mono ?_
      rintro e w' ⟨rfl, rfl⟩
      rw [smp_neg]
      go_wp2_with fail
      refine (aliveC _).mono ?_
      rintro e w2 ⟨rfl, hbn⟩
      replace hb := seqB hb hbn
      clear hbn
      go_wp2_with fail
      go_ret
      exact ⟨ret_bool (by simp), hb⟩
    · have h0' : ((xs.length : Int) == 0) = false := beq_eq_false_iff_ne.2 (by omega)
      obtain ⟨hF1, ⟨rfl, rfl⟩ | ⟨g, rfl⟩⟩ := hF
      · exact absurd hF1 (by omega)
      have hF : Fm (some ⟨g, 0, none⟩) xs.length d := ⟨hF1, .inr ⟨g, rfl⟩⟩
      have hi2 : (xs.length : Int) ≤ (d : Int) := by omega
      have hi3 : (1 : Int) ≤ (xs.length : Int) := by omega
      have hi4 : (1 : Int) ≤ (d : Int) := by omega
      have hr1 : Hid (Rd w1 (some ⟨g, 0 + 1, none⟩) (ints (xs.drop 1))) := rdDrop ho.rd
      have ht := Lib.hid (smp_tail HV.out 1)
      by_cases hd1 : d = 1
      · skip
        have hx1 : xs.length = 1 := by omega
        subst hd1
        obtain ⟨y, rfl⟩ := List.length_eq_one_iff.1 hx1
        clear hx1
        go_wp2_with fail
        refine (implSV _ _ _ ([y].drop 1) _ (by first | (simp; done) | (simp; omega)) (by omega) (by rw [List.drop_eq_nil_of_le (by simp)]; exact Rd.nil)).mono ?_
        rintro e w' ⟨rfl, rfl⟩
        rw [ht.out]
        have hlit : (w1.alloc (.cells #[] 3)).ownsRow w.heap.size 3 1 (.slice (some ⟨w1.heap.size, 0, none⟩) 0 0) 0 [] := World.ownsRow_lit w1 #[] 0 hb.size (Nat.zero_le _) rfl
        have hrd : Rd (w1.alloc (.cells #[] 3)) (some ⟨g, 0, none⟩) (ints [y]) := ho.rd.below (allocB (Below.refl _ _) _)
        replace hb := allocB hb (.cells #[] 3)
        go_wp2_with (first | (at_builtin; refine wpList_appN _ rfl _ _ _ rfl w.heap.size 3 i0 _ 1 8 Tryd.underlying26 HI.out rfl (by omega) _ 0 _ rfl hlit (some ⟨g, 0, none⟩) 1 1 (ints [y]) rfl (by simp [ints]) hrd (fun e => fm_nil hF e) (by simp [ints, Value.oneCell']) (by omega) (by omega) (by have := hb.size; omega) ?_; intro v1 wv1 hown1 hg1; replace hb := grown_row hb rfl hlit hg1; clear hlit hrd hg1 ho; have hz1 := hb.size; have hrd2 : Rd (wv1.alloc (.cells #[.int .i64 (-1)] 3)) (some ⟨wv1.heap.size, 0, none⟩) [.int .i64 (-1)] := (own_new rfl 3 [.int .i64 (-1)] 1 1 rfl).rd; replace hown1 := hown1.alloc (.cells #[.int .i64 (-1)] 3); replace hb := allocB hb (.cells #[.int .i64 (-1)] 3)) | (at_builtin; refine wpList_appN _ rfl _ _ _ rfl w.heap.size 3 i0 _ 1 8 Tryd.underlying26 HI.out rfl (by omega) v1 _ _ rfl hown1 (some ⟨wv1.heap.size, 0, none⟩) 1 1 [.int .i64 (-1)] rfl rfl hrd2 (fun e => by cases e) (by simp [Value.oneCell']) (by omega) (by omega) (by have := hb.size; omega) ?_; intro v2 wv2 hown2 hg2))
        replace hb := grown_row hb rfl hown1 hg2
        clear hown1 hrd2 hg2
        obtain ⟨B2, d2, rfl, hr2⟩ := row_is (n' := ([y] ++ [(-1 : Int)]).length) (cs' := ints ([y] ++ [(-1 : Int)])) hown2 (by simp) (by simp [ints])
        clear hown2
        refine (implSV _ _ _ ([y] ++ [(-1 : Int)]) _ rfl (by first | (simp; done) | (simp; omega)) (rd_of_row hr2)).mono ?_
        rintro e w' ⟨rfl, rfl⟩
        rw [smp_neg]
        go_wp2_with fail
        refine (aliveC _).mono ?_
        rintro e w2 ⟨rfl, hbn⟩
        replace hb := seqB hb hbn
        clear hbn
        go_wp2_with fail
        go_ret
        exact ⟨ret_bool (by simp), hb⟩
      · skip
        go_wp2_with fail
        refine (implSV _ _ _ (xs.drop 1) _ (by first | (simp; done) | (simp; omega)) (by omega) (by simpa using hr1.out)).mono ?_
        rintro e w' ⟨rfl, rfl⟩
        rw [ht.out]
        have hlit : (w1.alloc (.cells #[] 3)).ownsRow w.heap.size 3 1 (.slice (some ⟨w1.heap.size, 0, none⟩) 0 0) 0 [] := World.ownsRow_lit w1 #[] 0 hb.size (Nat.zero_le _) rfl
        have hrd : Rd (w1.alloc (.cells #[] 3)) (some ⟨g, 0, none⟩) (ints xs) := ho.rd.below (allocB (Below.refl _ _) _)
        replace hb := allocB hb (.cells #[] 3)
        go_wp2_with (first | (at_builtin; refine wpList_appN _ rfl _ _ _ rfl w.heap.size 3 i0 _ 1 8 Tryd.underlying26 HI.out rfl (by omega) _ 0 _ rfl hlit (some ⟨g, 0, none⟩) xs.length d (ints xs) rfl (by simp [ints]) hrd (fun e => fm_nil hF e) (by simp [ints, Value.oneCell']) (by omega) (by omega) (by have := hb.size; omega) ?_; intro v1 wv1 hown1 hg1; replace hb := grown_row hb rfl hlit hg1; clear hlit hrd hg1 ho; have hz1 := hb.size; have hrd2 : Rd (wv1.alloc (.cells #[.int .i64 (-1)] 3)) (some ⟨wv1.heap.size, 0, none⟩) [.int .i64 (-1)] := (own_new rfl 3 [.int .i64 (-1)] 1 1 rfl).rd; replace hown1 := hown1.alloc (.cells #[.int .i64 (-1)] 3); replace hb := allocB hb (.cells #[.int .i64 (-1)] 3)) | (at_builtin; refine wpList_appN _ rfl _ _ _ rfl w.heap.size 3 i0 _ 1 8 Tryd.underlying26 HI.out rfl (by omega) v1 _ _ rfl hown1 (some ⟨wv1.heap.size, 0, none⟩) 1 1 [.int .i64 (-1)] rfl rfl hrd2 (fun e => by cases e) (by simp [Value.oneCell']) (by omega) (by omega) (by have := hb.size; omega) ?_; intro v2 wv2 hown2 hg2))
        replace hb := grown_row hb rfl hown1 hg2
        clear hown1 hrd2 hg2
        obtain ⟨B2, d2, rfl, hr2⟩ := row_is (n' := (xs ++ [(-1 : Int)]).length) (cs' := ints (xs ++ [(-1 : Int)])) hown2 (by simp) (by simp [ints])
        clear hown2
        refine (implSV _ _ _ (xs ++ [(-1 : Int)]) _ rfl (by first | (simp; done) | (simp; omega)) (rd_of_row hr2)).mono ?_
        rintro e w' ⟨rfl, rfl⟩
        rw [smp_neg]
        go_wp2_with fail
        refine (aliveC _).mono ?_
        rintro e w2 ⟨rfl, hbn⟩
        replace hb := seqB hb hbn
        clear hbn
        go_wp2_with fail
        go_ret
        exact ⟨ret_bool (by simp), hb⟩
end Go.Proofs.YtanogghchmjkgaaDoor.lSV
