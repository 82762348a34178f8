/- The walk of FnTradeMany: it returns true, and writes nothing that was there. -/
import Derived.Test.YtlhfkidgmdojjaaDoorMkV
import Derived.Test.YtlhfkidgmdojjaaDoorDrT
import Derived.Test.YtlhfkidgmdojjaaDoorLawI
namespace Go.Proofs.YtlhfkidgmdojjaaDoor.lTM
open Go.RowKit Go.Proofs.YtlhfkidgmdojjaaDoor

set_option maxRecDepth 100000 in
set_option maxHeartbeats 10000000 in
theorem walk (w : World) (A : Option Addr) (m c : Nat) (hc : m ≤ c) (hm : m ≤ maxLen) (hA : RdB w A m) :
    Calls Tryd.prog 4 #[.slice A m c] w fun e w' => e = .returned (.bool true) ∧ Below w.heap.size w w' := by
  unfold maxLen at hm
  by_cases hs : m ≤ 1048576
  case neg =>
    go_enter Tryd.func4, Tryd.ntmps4
    go_wp2_with fail
    go_ret
    exact ⟨rfl, Below.refl _ _⟩
  have HA := Lib.hid hA; clear hA
  have hb : Below w.heap.size w w := Below.refl _ _
  go_enter Tryd.func4, Tryd.ntmps4
  obtain ⟨i0, hi0, hz0, hz1, hz2⟩ := info_parts info_Order
  have HI := Lib.hid (And.intro hi0 (And.intro hz0 (And.intro hz1 hz2))); clear hi0 hz0 hz1 hz2
  go_wp2_with fail
  refine (dDrawTradeMany A m c w hc hs HA.out).mono ?_
  rintro e w1 ⟨xs, ys, B, C, d1, d2, rfl, hlx, hly, hFx, hFy, hoX, hoY, hbn⟩
  replace hb := seqB hb hbn
  clear hbn
  have hnx : xs.length ≤ 1048576 := by omega
  have hny : ys.length ≤ 1048576 := by omega
  go_wp2_with fail
  refine (implTM _ _ _ _ _ _ xs ys _ rfl rfl hnx hny hoX.rd hoY.rd).mono ?_
  rintro e w2 ⟨rfl, hbn⟩
  replace hb := seqB hb hbn
  replace hoX := hoX.below hbn
  replace hoY := hoY.below hbn
  clear hbn
  have HK := Lib.hid (many_law xs ys)
  generalize hV : manyV xs ys = V at *
  have HV := Lib.hid hV; clear hV
  have hne : (V != V) = false := by simp
  go_wp2_with fail
  refine (specTM _ _ _ _ _ _ xs ys _ rfl rfl hnx hny hoX.rd hoY.rd).mono ?_
  rintro e w3 ⟨rfl, hbn⟩
  replace hb := seqB hb hbn
  replace hoX := hoX.below hbn
  replace hoY := hoY.below hbn
  clear hbn
  rw [HV.out]
  rcases HK.out with ⟨hx, _⟩ | ⟨hV0, hva, hvb⟩
  · clear HK HV
    subst hx
    go_wp2_with fail
    refine (aliveC _).mono ?_
    rintro e w4 ⟨rfl, hbn⟩
    replace hb := seqB hb hbn
    replace hoX := hoX.below hbn
    replace hoY := hoY.below hbn
    clear hbn
    go_wp2_with fail
    go_ret
    exact ⟨ret_bool (by simp), hb⟩
  · clear HK
    have HVA := Lib.hid hva; have HVB := Lib.hid hvb
    have h6x := side_len hva; have h6y := side_len hvb
    clear hva hvb
    have hlt0 : ¬ V < 0 := by omega
    have hP : (xs ++ [(⟨7, 3⟩ : Order)]).length = xs.length + 1 := by simp
    have hQ : (ys ++ [(⟨20, 3⟩ : Order)]).length = ys.length + 1 := by simp
    by_cases hx6 : xs.length = 6
    · have q1 : ((xs.length : Int) == 6) = true := by simp [hx6]
      clear hx6
      by_cases hy6 : ys.length = 6
      · have q2 : ((ys.length : Int) == 6) = true := by simp [hy6]
        clear hy6
        have hrd : Rd (w3.alloc (.cells #[] 33)) B (flatOrder xs) := hoX.rd.below (allocB (Below.refl _ _) _)
        have hgr0 : Below w3.heap.size w3 (w3.alloc (.cells #[] 33)) := allocB (Below.refl _ _) _
        go_wp2_with (first | (at_builtin; refine wpList_appN _ rfl _ _ _ rfl w3.heap.size 33 i0 _ 2 16 Tryd.underlying23 HI.out rfl (by omega) _ 0 _ rfl (World.ownsRow_lit w3 #[] 0 (Nat.le_refl _) (Nat.zero_le _) rfl) B xs.length d1 (flatOrder xs) rfl (flatOrder_length _) hrd (fun e => fm_nil hFx e) (flatOrder_one _) (by omega) (by omega) (by simp) ?_; intro v1 wvP1 hown1 hg1; have hg1' := grown_row hgr0 rfl (World.ownsRow_lit (base := w3.heap.size) (e := 33) (size := 2) w3 #[] 0 (Nat.le_refl _) (Nat.zero_le _) rfl) hg1; clear hrd hg1; have hz1 := hg1'.size; have hrd2 : Rd (wvP1.alloc (.cells #[.int .i64 7, .int .i64 3] 33)) (some ⟨wvP1.heap.size, 0, none⟩) [.int .i64 7, .int .i64 3] := (own_new rfl 33 [.int .i64 7, .int .i64 3] 1 2 rfl).rd; replace hown1 := hown1.alloc (.cells #[.int .i64 7, .int .i64 3] 33); replace hg1' := allocB hg1' (.cells #[.int .i64 7, .int .i64 3] 33)) | (at_builtin; refine wpList_appN _ rfl _ _ _ rfl w3.heap.size 33 i0 _ 2 16 Tryd.underlying23 HI.out rfl (by omega) v1 _ _ rfl hown1 (some ⟨wvP1.heap.size, 0, none⟩) 1 1 [.int .i64 7, .int .i64 3] rfl rfl hrd2 (fun e => by cases e) (by simp [Value.oneCell']) (by omega) (by omega) (by have := hz1; simp; omega) ?_; intro v2 wvP2 hown2 hg2; have hbn := grown_row hg1' rfl hown1 hg2; clear hown1 hrd2 hg2 hg1' hgr0 hz1; obtain ⟨BP, dP, rfl, hr2⟩ := row_is (n' := (xs ++ [(⟨7, 3⟩ : Order)]).length) (cs' := flatOrder (xs ++ [(⟨7, 3⟩ : Order)])) hown2 (by simp) (by rw [flatOrder_snoc]; rfl); clear hown2; have hoP := row_own hr2; clear hr2; replace hb := seqB hb hbn; replace hoX := hoX.below hbn; replace hoY := hoY.below hbn; clear hbn; have hrd : Rd (wvP2.alloc (.cells #[] 33)) C (flatOrder ys) := hoY.rd.below (allocB (Below.refl _ _) _); have hgr0 : Below wvP2.heap.size wvP2 (wvP2.alloc (.cells #[] 33)) := allocB (Below.refl _ _) _) | (at_builtin; refine wpList_appN _ rfl _ _ _ rfl wvP2.heap.size 33 i0 _ 2 16 Tryd.underlying23 HI.out rfl (by omega) _ 0 _ rfl (World.ownsRow_lit wvP2 #[] 0 (Nat.le_refl _) (Nat.zero_le _) rfl) C ys.length d2 (flatOrder ys) rfl (flatOrder_length _) hrd (fun e => fm_nil hFy e) (flatOrder_one _) (by omega) (by omega) (by simp) ?_; intro v1 wvQ1 hown1 hg1; have hg1' := grown_row hgr0 rfl (World.ownsRow_lit (base := wvP2.heap.size) (e := 33) (size := 2) wvP2 #[] 0 (Nat.le_refl _) (Nat.zero_le _) rfl) hg1; clear hrd hg1; have hz1 := hg1'.size; have hrd2 : Rd (wvQ1.alloc (.cells #[.int .i64 20, .int .i64 3] 33)) (some ⟨wvQ1.heap.size, 0, none⟩) [.int .i64 20, .int .i64 3] := (own_new rfl 33 [.int .i64 20, .int .i64 3] 1 2 rfl).rd; replace hown1 := hown1.alloc (.cells #[.int .i64 20, .int .i64 3] 33); replace hg1' := allocB hg1' (.cells #[.int .i64 20, .int .i64 3] 33)) | (at_builtin; refine wpList_appN _ rfl _ _ _ rfl wvP2.heap.size 33 i0 _ 2 16 Tryd.underlying23 HI.out rfl (by omega) v1 _ _ rfl hown1 (some ⟨wvQ1.heap.size, 0, none⟩) 1 1 [.int .i64 20, .int .i64 3] rfl rfl hrd2 (fun e => by cases e) (by simp [Value.oneCell']) (by omega) (by omega) (by have := hz1; simp; omega) ?_; intro v2 wvQ2 hown2 hg2; have hbn := grown_row hg1' rfl hown1 hg2; clear hown1 hrd2 hg2 hg1' hgr0 hz1; obtain ⟨BQ, dQ, rfl, hr2⟩ := row_is (n' := (ys ++ [(⟨20, 3⟩ : Order)]).length) (cs' := flatOrder (ys ++ [(⟨20, 3⟩ : Order)])) hown2 (by simp) (by rw [flatOrder_snoc]; rfl); clear hown2; have hoQ := row_own hr2; clear hr2; replace hb := seqB hb hbn; replace hoX := hoX.below hbn; replace hoY := hoY.below hbn; replace hoP := hoP.below hbn; clear hbn))
        go_ret
        exact ⟨rfl, hb⟩
      · have q2 : ((ys.length : Int) == 6) = false := by simp; omega
        have hrd : Rd (w3.alloc (.cells #[] 33)) B (flatOrder xs) := hoX.rd.below (allocB (Below.refl _ _) _)
        have hgr0 : Below w3.heap.size w3 (w3.alloc (.cells #[] 33)) := allocB (Below.refl _ _) _
        go_wp2_with (first | (at_builtin; refine wpList_appN _ rfl _ _ _ rfl w3.heap.size 33 i0 _ 2 16 Tryd.underlying23 HI.out rfl (by omega) _ 0 _ rfl (World.ownsRow_lit w3 #[] 0 (Nat.le_refl _) (Nat.zero_le _) rfl) B xs.length d1 (flatOrder xs) rfl (flatOrder_length _) hrd (fun e => fm_nil hFx e) (flatOrder_one _) (by omega) (by omega) (by simp) ?_; intro v1 wvP1 hown1 hg1; have hg1' := grown_row hgr0 rfl (World.ownsRow_lit (base := w3.heap.size) (e := 33) (size := 2) w3 #[] 0 (Nat.le_refl _) (Nat.zero_le _) rfl) hg1; clear hrd hg1; have hz1 := hg1'.size; have hrd2 : Rd (wvP1.alloc (.cells #[.int .i64 7, .int .i64 3] 33)) (some ⟨wvP1.heap.size, 0, none⟩) [.int .i64 7, .int .i64 3] := (own_new rfl 33 [.int .i64 7, .int .i64 3] 1 2 rfl).rd; replace hown1 := hown1.alloc (.cells #[.int .i64 7, .int .i64 3] 33); replace hg1' := allocB hg1' (.cells #[.int .i64 7, .int .i64 3] 33)) | (at_builtin; refine wpList_appN _ rfl _ _ _ rfl w3.heap.size 33 i0 _ 2 16 Tryd.underlying23 HI.out rfl (by omega) v1 _ _ rfl hown1 (some ⟨wvP1.heap.size, 0, none⟩) 1 1 [.int .i64 7, .int .i64 3] rfl rfl hrd2 (fun e => by cases e) (by simp [Value.oneCell']) (by omega) (by omega) (by have := hz1; simp; omega) ?_; intro v2 wvP2 hown2 hg2; have hbn := grown_row hg1' rfl hown1 hg2; clear hown1 hrd2 hg2 hg1' hgr0 hz1; obtain ⟨BP, dP, rfl, hr2⟩ := row_is (n' := (xs ++ [(⟨7, 3⟩ : Order)]).length) (cs' := flatOrder (xs ++ [(⟨7, 3⟩ : Order)])) hown2 (by simp) (by rw [flatOrder_snoc]; rfl); clear hown2; have hoP := row_own hr2; clear hr2; replace hb := seqB hb hbn; replace hoX := hoX.below hbn; replace hoY := hoY.below hbn; clear hbn; have hrd : Rd (wvP2.alloc (.cells #[] 33)) C (flatOrder ys) := hoY.rd.below (allocB (Below.refl _ _) _); have hgr0 : Below wvP2.heap.size wvP2 (wvP2.alloc (.cells #[] 33)) := allocB (Below.refl _ _) _) | (at_builtin; refine wpList_appN _ rfl _ _ _ rfl wvP2.heap.size 33 i0 _ 2 16 Tryd.underlying23 HI.out rfl (by omega) _ 0 _ rfl (World.ownsRow_lit wvP2 #[] 0 (Nat.le_refl _) (Nat.zero_le _) rfl) C ys.length d2 (flatOrder ys) rfl (flatOrder_length _) hrd (fun e => fm_nil hFy e) (flatOrder_one _) (by omega) (by omega) (by simp) ?_; intro v1 wvQ1 hown1 hg1; have hg1' := grown_row hgr0 rfl (World.ownsRow_lit (base := wvP2.heap.size) (e := 33) (size := 2) wvP2 #[] 0 (Nat.le_refl _) (Nat.zero_le _) rfl) hg1; clear hrd hg1; have hz1 := hg1'.size; have hrd2 : Rd (wvQ1.alloc (.cells #[.int .i64 20, .int .i64 3] 33)) (some ⟨wvQ1.heap.size, 0, none⟩) [.int .i64 20, .int .i64 3] := (own_new rfl 33 [.int .i64 20, .int .i64 3] 1 2 rfl).rd; replace hown1 := hown1.alloc (.cells #[.int .i64 20, .int .i64 3] 33); replace hg1' := allocB hg1' (.cells #[.int .i64 20, .int .i64 3] 33)) | (at_builtin; refine wpList_appN _ rfl _ _ _ rfl wvP2.heap.size 33 i0 _ 2 16 Tryd.underlying23 HI.out rfl (by omega) v1 _ _ rfl hown1 (some ⟨wvQ1.heap.size, 0, none⟩) 1 1 [.int .i64 20, .int .i64 3] rfl rfl hrd2 (fun e => by cases e) (by simp [Value.oneCell']) (by omega) (by omega) (by have := hz1; simp; omega) ?_; intro v2 wvQ2 hown2 hg2; have hbn := grown_row hg1' rfl hown1 hg2; clear hown1 hrd2 hg2 hg1' hgr0 hz1; obtain ⟨BQ, dQ, rfl, hr2⟩ := row_is (n' := (ys ++ [(⟨20, 3⟩ : Order)]).length) (cs' := flatOrder (ys ++ [(⟨20, 3⟩ : Order)])) hown2 (by simp) (by rw [flatOrder_snoc]; rfl); clear hown2; have hoQ := row_own hr2; clear hr2; replace hb := seqB hb hbn; replace hoX := hoX.below hbn; replace hoY := hoY.below hbn; replace hoP := hoP.below hbn; clear hbn))
        have hM2 := many_more_bid (o := (⟨20, 3⟩ : Order)) HVA.out HVB.out (by omega) (by decide)
        rw [HV.out] at hM2
        refine (implTM _ _ _ _ _ _ xs (ys ++ [(⟨20, 3⟩ : Order)]) _ rfl hQ hnx (by omega) hoX.rd hoQ.rd).mono ?_
        rintro e w4 ⟨rfl, hbn⟩
        replace hb := seqB hb hbn
        replace hoX := hoX.below hbn
        replace hoY := hoY.below hbn
        replace hoP := hoP.below hbn
        replace hoQ := hoQ.below hbn
        clear hbn
        generalize manyV xs (ys ++ [(⟨20, 3⟩ : Order)]) = M2 at *
        have q3 : decide (V ≤ M2) = true := by simpa using hM2
        go_wp2_with fail
        go_ret
        exact ⟨rfl, hb⟩
    · have q1 : ((xs.length : Int) == 6) = false := by simp; omega
      by_cases hy6 : ys.length = 6
      · have q2 : ((ys.length : Int) == 6) = true := by simp [hy6]
        clear hy6
        have hrd : Rd (w3.alloc (.cells #[] 33)) B (flatOrder xs) := hoX.rd.below (allocB (Below.refl _ _) _)
        have hgr0 : Below w3.heap.size w3 (w3.alloc (.cells #[] 33)) := allocB (Below.refl _ _) _
        go_wp2_with (first | (at_builtin; refine wpList_appN _ rfl _ _ _ rfl w3.heap.size 33 i0 _ 2 16 Tryd.underlying23 HI.out rfl (by omega) _ 0 _ rfl (World.ownsRow_lit w3 #[] 0 (Nat.le_refl _) (Nat.zero_le _) rfl) B xs.length d1 (flatOrder xs) rfl (flatOrder_length _) hrd (fun e => fm_nil hFx e) (flatOrder_one _) (by omega) (by omega) (by simp) ?_; intro v1 wvP1 hown1 hg1; have hg1' := grown_row hgr0 rfl (World.ownsRow_lit (base := w3.heap.size) (e := 33) (size := 2) w3 #[] 0 (Nat.le_refl _) (Nat.zero_le _) rfl) hg1; clear hrd hg1; have hz1 := hg1'.size; have hrd2 : Rd (wvP1.alloc (.cells #[.int .i64 7, .int .i64 3] 33)) (some ⟨wvP1.heap.size, 0, none⟩) [.int .i64 7, .int .i64 3] := (own_new rfl 33 [.int .i64 7, .int .i64 3] 1 2 rfl).rd; replace hown1 := hown1.alloc (.cells #[.int .i64 7, .int .i64 3] 33); replace hg1' := allocB hg1' (.cells #[.int .i64 7, .int .i64 3] 33)) | (at_builtin; refine wpList_appN _ rfl _ _ _ rfl w3.heap.size 33 i0 _ 2 16 Tryd.underlying23 HI.out rfl (by omega) v1 _ _ rfl hown1 (some ⟨wvP1.heap.size, 0, none⟩) 1 1 [.int .i64 7, .int .i64 3] rfl rfl hrd2 (fun e => by cases e) (by simp [Value.oneCell']) (by omega) (by omega) (by have := hz1; simp; omega) ?_; intro v2 wvP2 hown2 hg2; have hbn := grown_row hg1' rfl hown1 hg2; clear hown1 hrd2 hg2 hg1' hgr0 hz1; obtain ⟨BP, dP, rfl, hr2⟩ := row_is (n' := (xs ++ [(⟨7, 3⟩ : Order)]).length) (cs' := flatOrder (xs ++ [(⟨7, 3⟩ : Order)])) hown2 (by simp) (by rw [flatOrder_snoc]; rfl); clear hown2; have hoP := row_own hr2; clear hr2; replace hb := seqB hb hbn; replace hoX := hoX.below hbn; replace hoY := hoY.below hbn; clear hbn; have hrd : Rd (wvP2.alloc (.cells #[] 33)) C (flatOrder ys) := hoY.rd.below (allocB (Below.refl _ _) _); have hgr0 : Below wvP2.heap.size wvP2 (wvP2.alloc (.cells #[] 33)) := allocB (Below.refl _ _) _) | (at_builtin; refine wpList_appN _ rfl _ _ _ rfl wvP2.heap.size 33 i0 _ 2 16 Tryd.underlying23 HI.out rfl (by omega) _ 0 _ rfl (World.ownsRow_lit wvP2 #[] 0 (Nat.le_refl _) (Nat.zero_le _) rfl) C ys.length d2 (flatOrder ys) rfl (flatOrder_length _) hrd (fun e => fm_nil hFy e) (flatOrder_one _) (by omega) (by omega) (by simp) ?_; intro v1 wvQ1 hown1 hg1; have hg1' := grown_row hgr0 rfl (World.ownsRow_lit (base := wvP2.heap.size) (e := 33) (size := 2) wvP2 #[] 0 (Nat.le_refl _) (Nat.zero_le _) rfl) hg1; clear hrd hg1; have hz1 := hg1'.size; have hrd2 : Rd (wvQ1.alloc (.cells #[.int .i64 20, .int .i64 3] 33)) (some ⟨wvQ1.heap.size, 0, none⟩) [.int .i64 20, .int .i64 3] := (own_new rfl 33 [.int .i64 20, .int .i64 3] 1 2 rfl).rd; replace hown1 := hown1.alloc (.cells #[.int .i64 20, .int .i64 3] 33); replace hg1' := allocB hg1' (.cells #[.int .i64 20, .int .i64 3] 33)) | (at_builtin; refine wpList_appN _ rfl _ _ _ rfl wvP2.heap.size 33 i0 _ 2 16 Tryd.underlying23 HI.out rfl (by omega) v1 _ _ rfl hown1 (some ⟨wvQ1.heap.size, 0, none⟩) 1 1 [.int .i64 20, .int .i64 3] rfl rfl hrd2 (fun e => by cases e) (by simp [Value.oneCell']) (by omega) (by omega) (by have := hz1; simp; omega) ?_; intro v2 wvQ2 hown2 hg2; have hbn := grown_row hg1' rfl hown1 hg2; clear hown1 hrd2 hg2 hg1' hgr0 hz1; obtain ⟨BQ, dQ, rfl, hr2⟩ := row_is (n' := (ys ++ [(⟨20, 3⟩ : Order)]).length) (cs' := flatOrder (ys ++ [(⟨20, 3⟩ : Order)])) hown2 (by simp) (by rw [flatOrder_snoc]; rfl); clear hown2; have hoQ := row_own hr2; clear hr2; replace hb := seqB hb hbn; replace hoX := hoX.below hbn; replace hoY := hoY.below hbn; replace hoP := hoP.below hbn; clear hbn))
        have hM1 := many_more_ask (o := (⟨7, 3⟩ : Order)) HVA.out HVB.out (by omega) (by decide)
        rw [HV.out] at hM1
        refine (implTM _ _ _ _ _ _ (xs ++ [(⟨7, 3⟩ : Order)]) ys _ hP rfl (by omega) hny hoP.rd hoY.rd).mono ?_
        rintro e w4 ⟨rfl, hbn⟩
        replace hb := seqB hb hbn
        replace hoX := hoX.below hbn
        replace hoY := hoY.below hbn
        replace hoP := hoP.below hbn
        replace hoQ := hoQ.below hbn
        clear hbn
        generalize manyV (xs ++ [(⟨7, 3⟩ : Order)]) ys = M1 at *
        have q4 : decide (V ≤ M1) = true := by simpa using hM1
        go_wp2_with fail
        go_ret
        exact ⟨rfl, hb⟩
      · have q2 : ((ys.length : Int) == 6) = false := by simp; omega
        have hrd : Rd (w3.alloc (.cells #[] 33)) B (flatOrder xs) := hoX.rd.below (allocB (Below.refl _ _) _)
        have hgr0 : Below w3.heap.size w3 (w3.alloc (.cells #[] 33)) := allocB (Below.refl _ _) _
        go_wp2_with (first | (at_builtin; refine wpList_appN _ rfl _ _ _ rfl w3.heap.size 33 i0 _ 2 16 Tryd.underlying23 HI.out rfl (by omega) _ 0 _ rfl (World.ownsRow_lit w3 #[] 0 (Nat.le_refl _) (Nat.zero_le _) rfl) B xs.length d1 (flatOrder xs) rfl (flatOrder_length _) hrd (fun e => fm_nil hFx e) (flatOrder_one _) (by omega) (by omega) (by simp) ?_; intro v1 wvP1 hown1 hg1; have hg1' := grown_row hgr0 rfl (World.ownsRow_lit (base := w3.heap.size) (e := 33) (size := 2) w3 #[] 0 (Nat.le_refl _) (Nat.zero_le _) rfl) hg1; clear hrd hg1; have hz1 := hg1'.size; have hrd2 : Rd (wvP1.alloc (.cells #[.int .i64 7, .int .i64 3] 33)) (some ⟨wvP1.heap.size, 0, none⟩) [.int .i64 7, .int .i64 3] := (own_new rfl 33 [.int .i64 7, .int .i64 3] 1 2 rfl).rd; replace hown1 := hown1.alloc (.cells #[.int .i64 7, .int .i64 3] 33); replace hg1' := allocB hg1' (.cells #[.int .i64 7, .int .i64 3] 33)) | (at_builtin; refine wpList_appN _ rfl _ _ _ rfl w3.heap.size 33 i0 _ 2 16 Tryd.underlying23 HI.out rfl (by omega) v1 _ _ rfl hown1 (some ⟨wvP1.heap.size, 0, none⟩) 1 1 [.int .i64 7, .int .i64 3] rfl rfl hrd2 (fun e => by cases e) (by simp [Value.oneCell']) (by omega) (by omega) (by have := hz1; simp; omega) ?_; intro v2 wvP2 hown2 hg2; have hbn := grown_row hg1' rfl hown1 hg2; clear hown1 hrd2 hg2 hg1' hgr0 hz1; obtain ⟨BP, dP, rfl, hr2⟩ := row_is (n' := (xs ++ [(⟨7, 3⟩ : Order)]).length) (cs' := flatOrder (xs ++ [(⟨7, 3⟩ : Order)])) hown2 (by simp) (by rw [flatOrder_snoc]; rfl); clear hown2; have hoP := row_own hr2; clear hr2; replace hb := seqB hb hbn; replace hoX := hoX.below hbn; replace hoY := hoY.below hbn; clear hbn; have hrd : Rd (wvP2.alloc (.cells #[] 33)) C (flatOrder ys) := hoY.rd.below (allocB (Below.refl _ _) _); have hgr0 : Below wvP2.heap.size wvP2 (wvP2.alloc (.cells #[] 33)) := allocB (Below.refl _ _) _) | (at_builtin; refine wpList_appN _ rfl _ _ _ rfl wvP2.heap.size 33 i0 _ 2 16 Tryd.underlying23 HI.out rfl (by omega) _ 0 _ rfl (World.ownsRow_lit wvP2 #[] 0 (Nat.le_refl _) (Nat.zero_le _) rfl) C ys.length d2 (flatOrder ys) rfl (flatOrder_length _) hrd (fun e => fm_nil hFy e) (flatOrder_one _) (by omega) (by omega) (by simp) ?_; intro v1 wvQ1 hown1 hg1; have hg1' := grown_row hgr0 rfl (World.ownsRow_lit (base := wvP2.heap.size) (e := 33) (size := 2) wvP2 #[] 0 (Nat.le_refl _) (Nat.zero_le _) rfl) hg1; clear hrd hg1; have hz1 := hg1'.size; have hrd2 : Rd (wvQ1.alloc (.cells #[.int .i64 20, .int .i64 3] 33)) (some ⟨wvQ1.heap.size, 0, none⟩) [.int .i64 20, .int .i64 3] := (own_new rfl 33 [.int .i64 20, .int .i64 3] 1 2 rfl).rd; replace hown1 := hown1.alloc (.cells #[.int .i64 20, .int .i64 3] 33); replace hg1' := allocB hg1' (.cells #[.int .i64 20, .int .i64 3] 33)) | (at_builtin; refine wpList_appN _ rfl _ _ _ rfl wvP2.heap.size 33 i0 _ 2 16 Tryd.underlying23 HI.out rfl (by omega) v1 _ _ rfl hown1 (some ⟨wvQ1.heap.size, 0, none⟩) 1 1 [.int .i64 20, .int .i64 3] rfl rfl hrd2 (fun e => by cases e) (by simp [Value.oneCell']) (by omega) (by omega) (by have := hz1; simp; omega) ?_; intro v2 wvQ2 hown2 hg2; have hbn := grown_row hg1' rfl hown1 hg2; clear hown1 hrd2 hg2 hg1' hgr0 hz1; obtain ⟨BQ, dQ, rfl, hr2⟩ := row_is (n' := (ys ++ [(⟨20, 3⟩ : Order)]).length) (cs' := flatOrder (ys ++ [(⟨20, 3⟩ : Order)])) hown2 (by simp) (by rw [flatOrder_snoc]; rfl); clear hown2; have hoQ := row_own hr2; clear hr2; replace hb := seqB hb hbn; replace hoX := hoX.below hbn; replace hoY := hoY.below hbn; replace hoP := hoP.below hbn; clear hbn))
        have hM1 := many_more_ask (o := (⟨7, 3⟩ : Order)) HVA.out HVB.out (by omega) (by decide)
        rw [HV.out] at hM1
        refine (implTM _ _ _ _ _ _ (xs ++ [(⟨7, 3⟩ : Order)]) ys _ hP rfl (by omega) hny hoP.rd hoY.rd).mono ?_
        rintro e w4 ⟨rfl, hbn⟩
        replace hb := seqB hb hbn
        replace hoX := hoX.below hbn
        replace hoY := hoY.below hbn
        replace hoP := hoP.below hbn
        replace hoQ := hoQ.below hbn
        clear hbn
        generalize manyV (xs ++ [(⟨7, 3⟩ : Order)]) ys = M1 at *
        have q4 : decide (V ≤ M1) = true := by simpa using hM1
        have hM2 := many_more_bid (o := (⟨20, 3⟩ : Order)) HVA.out HVB.out (by omega) (by decide)
        rw [HV.out] at hM2
        go_wp2_with fail
        refine (implTM _ _ _ _ _ _ xs (ys ++ [(⟨20, 3⟩ : Order)]) _ rfl hQ hnx (by omega) hoX.rd hoQ.rd).mono ?_
        rintro e w5 ⟨rfl, hbn⟩
        replace hb := seqB hb hbn
        replace hoX := hoX.below hbn
        replace hoY := hoY.below hbn
        replace hoP := hoP.below hbn
        replace hoQ := hoQ.below hbn
        clear hbn
        generalize manyV xs (ys ++ [(⟨20, 3⟩ : Order)]) = M2 at *
        have q3 : decide (V ≤ M2) = true := by simpa using hM2
        go_wp2_with fail
        go_ret
        exact ⟨rfl, hb⟩
end Go.Proofs.YtlhfkidgmdojjaaDoor.lTM
