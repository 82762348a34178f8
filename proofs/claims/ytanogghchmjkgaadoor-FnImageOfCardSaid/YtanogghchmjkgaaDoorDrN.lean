/- Contracts of the Draw functions of samples. No statement is proved here. -/
import Derived.Test.YtanogghchmjkgaaDoorDrM
namespace Go.Proofs.YtanogghchmjkgaaDoor
open Go.RowKit

theorem row_is {w : World} {base : Nat} {E : TypeId} {size n n' : Nat} {v : Value} {cs cs' : List Value} (h : w.ownsRow base E size v n cs) (e1 : n = n') (e2 : cs = cs') : ∃ B c, v = .slice B n' c ∧ w.ownsRow base E size (.slice B n' c) n' cs' := by
  subst e1; subst e2
  obtain ⟨B, c, rfl, _⟩ := own_of_row h
  exact ⟨B, c, rfl, h⟩
def DI (m' : Nat) (w : World) (e : Ending) (w' : World) : Prop := ∃ (xs : List Int) (B : Option Addr) (d : Nat), e = .returned (.slice B xs.length d) ∧ xs.length ≤ m' ∧ Fm B xs.length d ∧ Own w' w.heap.size 3 1 B xs.length (ints xs) ∧ Below w.heap.size w w'
def DRp (m' : Nat) (w : World) (e : Ending) (w' : World) : Prop := ∃ (l : List Report) (B : Option Addr) (d : Nat), e = .returned (.slice B l.length d) ∧ l.length ≤ m' ∧ Fm B l.length d ∧ Own w' w.heap.size 31 2 B l.length (flatReport l) ∧ Below w.heap.size w w'
def DIN (m' : Nat) (w : World) (e : Ending) (w' : World) : Prop := ∃ (xs : List Int) (B : Option Addr) (d : Nat) (p : Int), e = .returned (.tuple #[.slice B xs.length d, .int .i64 p]) ∧ (-10 ≤ p ∧ p ≤ 100) ∧ xs.length ≤ m' ∧ Fm B xs.length d ∧ Own w' w.heap.size 3 1 B xs.length (ints xs) ∧ Below w.heap.size w w'
def DRpN (m' : Nat) (w : World) (e : Ending) (w' : World) : Prop := ∃ (l : List Report) (B : Option Addr) (d : Nat) (p : Int), e = .returned (.tuple #[.slice B l.length d, .int .i64 p]) ∧ (-10 ≤ p ∧ p ≤ 100) ∧ l.length ≤ m' ∧ Fm B l.length d ∧ Own w' w.heap.size 31 2 B l.length (flatReport l) ∧ Below w.heap.size w w'
def DIR (w : World) (e : Ending) (w' : World) : Prop := ∃ (xs : List Int) (l : List Report) (B C : Option Addr) (d d' : Nat), e = .returned (.tuple #[.slice B xs.length d, .slice C l.length d']) ∧ xs.length ≤ 21 ∧ l.length ≤ 1048576 ∧ Own w' w.heap.size 3 1 B xs.length (ints xs) ∧ Own w' w.heap.size 31 2 C l.length (flatReport l) ∧ Below w.heap.size w w'

set_option maxHeartbeats 1000000 in
theorem dDrawSamplesValid (A : Option Addr) (m c : Nat) (w : World) (hc : m ≤ c) (hm : m ≤ 1048576) (hA : RdB w A m) : Calls Tryd.prog 19 #[.slice A m c] w (DI 21 w) := by
  have HB := Lib.hid hA; clear hA
  have HG := Lib.hid (Below.refl w.heap.size w)
  go_enter Tryd.func19, Tryd.ntmps19
  go_wp2_with fail
  refine (openC _ _ _ _ hc hm (rdb_below HB.out HG.out)).mono ?_
  rintro e w1 ⟨rfl, hR, hbn⟩
  have hRe0 := HG.out.size
  replace HG := Lib.hid (seqB HG.out hbn)
  have HR := Lib.hid hR
  clear hbn hR HB
  obtain ⟨R, hRe⟩ : ∃ R, R = w.heap.size := ⟨_, rfl⟩
  have HRw : w.heap.size ≤ R := by rw [hRe]; exact hRe0
  rw [← hRe] at HR  ⊢
  clear hRe hRe0
  have hlR := HR.out.lt
  have hz_xs := HG.out.size
  go_wp2_with fail
  refine (drSamples R 0 2 _ HR.out (by omega) (by omega) (by omega)).mono ?_
  rintro e w2 ⟨xs, Bxs, cxs, rfl, hl_xs, hF_xs, ho, hR, hg⟩
  replace HR := Lib.hid hR
  replace HG := Lib.hid (gr_below HG.out hg HRw)
  clear hR hg
  have O_xs := Lib.hid ho; clear ho
  have r_xs := hlR; clear hlR
  go_wp2_with fail
  go_ret
  exact ⟨xs, Bxs, cxs, rfl, hl_xs, hF_xs, O_xs.out.mono (by omega), HG.out⟩
set_option maxHeartbeats 1000000 in
theorem dDrawReportsValid (A : Option Addr) (m c : Nat) (w : World) (hc : m ≤ c) (hm : m ≤ 1048576) (hA : RdB w A m) : Calls Tryd.prog 22 #[.slice A m c] w (DRp 7 w) := by
  have HB := Lib.hid hA; clear hA
  have HG := Lib.hid (Below.refl w.heap.size w)
  go_enter Tryd.func22, Tryd.ntmps22
  go_wp2_with fail
  refine (openC _ _ _ _ hc hm (rdb_below HB.out HG.out)).mono ?_
  rintro e w1 ⟨rfl, hR, hbn⟩
  have hRe0 := HG.out.size
  replace HG := Lib.hid (seqB HG.out hbn)
  have HR := Lib.hid hR
  clear hbn hR HB
  obtain ⟨R, hRe⟩ : ∃ R, R = w.heap.size := ⟨_, rfl⟩
  have HRw : w.heap.size ≤ R := by rw [hRe]; exact hRe0
  rw [← hRe] at HR  ⊢
  clear hRe hRe0
  have hlR := HR.out.lt
  have hz_xs := HG.out.size
  go_wp2_with fail
  refine (drReports R 0 2 _ HR.out (by omega) (by omega) (by omega)).mono ?_
  rintro e w2 ⟨xs, Bxs, cxs, rfl, hl_xs, hF_xs, ho, hR, hg⟩
  replace HR := Lib.hid hR
  replace HG := Lib.hid (gr_below HG.out hg HRw)
  clear hR hg
  have O_xs := Lib.hid ho; clear ho
  have r_xs := hlR; clear hlR
  go_wp2_with fail
  go_ret
  exact ⟨xs, Bxs, cxs, rfl, hl_xs, hF_xs, O_xs.out.mono (by omega), HG.out⟩
set_option maxHeartbeats 1000000 in
theorem dDrawReportsOf (A : Option Addr) (m c : Nat) (w : World) (hc : m ≤ c) (hm : m ≤ 1048576) (hA : RdB w A m) : Calls Tryd.prog 14 #[.slice A m c] w (DIN 21 w) := by
  have HB := Lib.hid hA; clear hA
  have HG := Lib.hid (Below.refl w.heap.size w)
  go_enter Tryd.func14, Tryd.ntmps14
  go_wp2_with fail
  refine (openC _ _ _ _ hc hm (rdb_below HB.out HG.out)).mono ?_
  rintro e w1 ⟨rfl, hR, hbn⟩
  have hRe0 := HG.out.size
  replace HG := Lib.hid (seqB HG.out hbn)
  have HR := Lib.hid hR
  clear hbn hR HB
  obtain ⟨R, hRe⟩ : ∃ R, R = w.heap.size := ⟨_, rfl⟩
  have HRw : w.heap.size ≤ R := by rw [hRe]; exact hRe0
  rw [← hRe] at HR  ⊢
  clear hRe hRe0
  have hlR := HR.out.lt
  have hz_xs := HG.out.size
  go_wp2_with fail
  refine (drSamples R 0 9 _ HR.out (by omega) (by omega) (by omega)).mono ?_
  rintro e w2 ⟨xs, Bxs, cxs, rfl, hl_xs, hF_xs, ho, hR, hg⟩
  replace HR := Lib.hid hR
  replace HG := Lib.hid (gr_below HG.out hg HRw)
  clear hR hg
  have O_xs := Lib.hid ho; clear ho
  have r_xs := hlR; clear hlR
  go_wp2_with fail
  refine (pickC R _ 12 _ HR.out (by omega) (by omega)).mono ?_
  rintro e w3 ⟨p1, rfl, hx_p1, hR, hg⟩
  replace O_xs := Lib.hid (own_dr O_xs.out hg r_xs)
  replace HR := Lib.hid hR
  replace HG := Lib.hid (gr_below HG.out hg HRw)
  clear hR hg
  go_wp2_with fail
  refine (pickC R _ 12 _ HR.out (by omega) (by omega)).mono ?_
  rintro e w4 ⟨p2, rfl, hx_p2, hR, hg⟩
  replace O_xs := Lib.hid (own_dr O_xs.out hg r_xs)
  replace HR := Lib.hid hR
  replace HG := Lib.hid (gr_below HG.out hg HRw)
  clear hR hg
  have hp12 : (0 : Int) ≤ (p2 : Int) / 11 ∧ (p2 : Int) / 11 ≤ 1 := by omega
  go_wp2_with fail
  exact bodyPost_ret (v := .tuple #[.slice Bxs xs.length cxs, .int .i64 ((p1 : Int) - (p2 : Int) / 11)]) (by simp [results, Tryd.results14, go_sem]) rfl ⟨xs, Bxs, cxs, _, rfl, by omega, hl_xs, hF_xs, O_xs.out.mono (by omega), HG.out⟩
set_option maxHeartbeats 1000000 in
theorem dDrawImageOf (A : Option Addr) (m c : Nat) (w : World) (hc : m ≤ c) (hm : m ≤ 1048576) (hA : RdB w A m) : Calls Tryd.prog 8 #[.slice A m c] w (DRpN 7 w) := by
  have HB := Lib.hid hA; clear hA
  have HG := Lib.hid (Below.refl w.heap.size w)
  go_enter Tryd.func8, Tryd.ntmps8
  go_wp2_with fail
  refine (openC _ _ _ _ hc hm (rdb_below HB.out HG.out)).mono ?_
  rintro e w1 ⟨rfl, hR, hbn⟩
  have hRe0 := HG.out.size
  replace HG := Lib.hid (seqB HG.out hbn)
  have HR := Lib.hid hR
  clear hbn hR HB
  obtain ⟨R, hRe⟩ : ∃ R, R = w.heap.size := ⟨_, rfl⟩
  have HRw : w.heap.size ≤ R := by rw [hRe]; exact hRe0
  rw [← hRe] at HR  ⊢
  clear hRe hRe0
  have hlR := HR.out.lt
  have hz_xs := HG.out.size
  go_wp2_with fail
  refine (drReports R 0 9 _ HR.out (by omega) (by omega) (by omega)).mono ?_
  rintro e w2 ⟨xs, Bxs, cxs, rfl, hl_xs, hF_xs, ho, hR, hg⟩
  replace HR := Lib.hid hR
  replace HG := Lib.hid (gr_below HG.out hg HRw)
  clear hR hg
  have O_xs := Lib.hid ho; clear ho
  have r_xs := hlR; clear hlR
  go_wp2_with fail
  refine (pickC R _ 22 _ HR.out (by omega) (by omega)).mono ?_
  rintro e w3 ⟨p1, rfl, hx_p1, hR, hg⟩
  replace O_xs := Lib.hid (own_dr O_xs.out hg r_xs)
  replace HR := Lib.hid hR
  replace HG := Lib.hid (gr_below HG.out hg HRw)
  clear hR hg
  go_wp2_with fail
  exact bodyPost_ret (v := .tuple #[.slice Bxs xs.length cxs, .int .i64 (p1 : Int)]) (by simp [results, Tryd.results8, go_sem]) rfl ⟨xs, Bxs, cxs, _, rfl, by omega, hl_xs, hF_xs, O_xs.out.mono (by omega), HG.out⟩
set_option maxHeartbeats 1000000 in
theorem dDrawWorstGap (A : Option Addr) (m c : Nat) (w : World) (hc : m ≤ c) (hm : m ≤ 1048576) (hA : RdB w A m) : Calls Tryd.prog 24 #[.slice A m c] w (DIR w) := by
  have HB := Lib.hid hA; clear hA
  have HG := Lib.hid (Below.refl w.heap.size w)
  go_enter Tryd.func24, Tryd.ntmps24
  go_wp2_with fail
  refine (openC _ _ _ _ hc hm (rdb_below HB.out HG.out)).mono ?_
  rintro e w1 ⟨rfl, hR, hbn⟩
  have hRe0 := HG.out.size
  replace HG := Lib.hid (seqB HG.out hbn)
  have HR := Lib.hid hR
  clear hbn hR HB
  obtain ⟨R, hRe⟩ : ∃ R, R = w.heap.size := ⟨_, rfl⟩
  have HRw : w.heap.size ≤ R := by rw [hRe]; exact hRe0
  rw [← hRe] at HR  ⊢
  clear hRe hRe0
  have hlR := HR.out.lt
  have hz_xs := HG.out.size
  go_wp2_with fail
  refine (drSamples R 0 9 _ HR.out (by omega) (by omega) (by omega)).mono ?_
  rintro e w2 ⟨xs, Bxs, cxs, rfl, hl_xs, hF_xs, ho, hR, hg⟩
  replace HR := Lib.hid hR
  replace HG := Lib.hid (gr_below HG.out hg HRw)
  clear hR hg
  have O_xs := Lib.hid ho; clear ho
  have r_xs := hlR; clear hlR
  go_wp2_with fail
  refine (pickC R _ 2 _ HR.out (by omega) (by omega)).mono ?_
  rintro e w3 ⟨p1, rfl, hx_p1, hR, hg⟩
  replace O_xs := Lib.hid (own_dr O_xs.out hg r_xs)
  replace HR := Lib.hid hR
  replace HG := Lib.hid (gr_below HG.out hg HRw)
  clear hR hg
  cases e0 : ((p1 : Int) == 0) with
  | true =>
    go_wp2_with fail
    refine (pickC R _ 10 _ HR.out (by omega) (by omega)).mono ?_
    rintro e w4 ⟨p2, rfl, hx_p2, hR, hg⟩
    replace O_xs := Lib.hid (own_dr O_xs.out hg r_xs)
    replace HR := Lib.hid hR
    replace HG := Lib.hid (gr_below HG.out hg HRw)
    clear hR hg
    have hz2 := HG.out.size
    go_wp2_with fail
    refine (specRO _ _ _ xs (p2 : Int) _ rfl (by omega) O_xs.out.rd).mono ?_
    rintro e w9 ⟨C, d, rfl, hoC, hbn⟩
    go_wp2_with fail
    exact bodyPost_ret (v := .tuple #[.slice Bxs xs.length cxs, .slice C (reps xs (p2 : Int)).length d]) (by simp [results, Tryd.results24, go_sem]) rfl ⟨xs, _, Bxs, C, cxs, d, rfl, hl_xs, reps_len _ _, (O_xs.out.below hbn).mono (by omega), hoC.mono (by omega), seqB HG.out hbn⟩
  | false =>
    have hlR := HR.out.lt
    have hz_ys := HG.out.size
    go_wp2_with fail
    refine (drReports R _ 9 _ HR.out (by omega) (by omega) (by omega)).mono ?_
    rintro e w4 ⟨ys, Bys, cys, rfl, hl_ys, hF_ys, ho, hR, hg⟩
    replace O_xs := Lib.hid (own_dr O_xs.out hg r_xs)
    replace HR := Lib.hid hR
    replace HG := Lib.hid (gr_below HG.out hg HRw)
    clear hR hg
    have O_ys := Lib.hid ho; clear ho
    have r_ys := hlR; clear hlR
    go_wp2_with fail
    exact bodyPost_ret (v := .tuple #[.slice Bxs xs.length cxs, .slice Bys ys.length cys]) (by simp [results, Tryd.results24, go_sem]) rfl ⟨xs, ys, Bxs, Bys, cxs, cys, rfl, hl_xs, by omega, O_xs.out.mono (by omega), O_ys.out.mono (by omega), HG.out⟩
end Go.Proofs.YtanogghchmjkgaaDoor
