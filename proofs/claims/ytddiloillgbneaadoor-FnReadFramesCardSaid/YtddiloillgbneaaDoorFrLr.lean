/- Contracts of ReadFrames, of the program and of the reference. No statement is proved here. -/
import Derived.Test.YtddiloillgbneaaDoorFrLs
namespace Go.Proofs.YtddiloillgbneaaDoor
open Go.RowKit

def lenV : Value → Nat
  | .slice _ n _ => n
  | _ => 0
/-- what reading frames returns -/
def RetFs (xs : List Int) (w : World) (e : Ending) (w' : World) : Prop :=
  ∃ B d rs, e = .returned (.tuple #[.slice B rs.length d, .int .i64 (rdFs xs).2]) ∧ RowF w' w.heap.size B d rs ∧ vals rs = (rdFs xs).1 ∧ Below w.heap.size w w'
theorem rdFs_nil' {ys : List Int} (h : ys.length = 0) : rdFs ys = ([], 0) := by
  have : ys = [] := List.eq_nil_of_length_eq_zero h
  subst this; exact rdFs_nil
theorem ints_drop (xs : List Int) (k : Nat) : ints (xs.drop k) = (ints xs).drop k := by simp [ints, List.map_drop]
theorem step_no {xs ys : List Int} {rs : List FR} {s : Nat} (h : rdFs xs = (vals rs ++ (rdFs ys).1, s + (rdFs ys).2)) (hp : 0 < ys.length) (hok : rdOk ys = false) : rdFs xs = (vals rs ++ (rdFs (ys.drop 1)).1, s + 1 + (rdFs (ys.drop 1)).2) := by
  rw [h, rdFs_no hp hok]
  simp only [Prod.mk.injEq, true_and]; omega
theorem step_yes {xs ys : List Int} {rs : List FR} {r : FR} {s : Nat} (h : rdFs xs = (vals rs ++ (rdFs ys).1, s + (rdFs ys).2)) (hok : rdOk ys = true) (h1 : r.a = rdA ys) (h2 : r.l = rdB ys) : rdFs xs = (vals (rs ++ [r]) ++ (rdFs (ys.drop (rdN ys))).1, s + (rdFs (ys.drop (rdN ys))).2) := by
  rw [h, rdFs_yes hok]
  simp [vals, FR.val, h1, h2]
theorem rowF_nil (w : World) (base : Nat) : RowF w base none 0 [] := ⟨row_zero, by simp, List.Pairwise.nil⟩

set_option maxRecDepth 100000 in
set_option maxHeartbeats 2000000 in
theorem implRFs (A : Option Addr) (n c : Nat) (xs : List Int) (w : World) (hn : xs.length = n) (hm : n ≤ 1048576) (hcap : n ≤ c) (hA : Rd w A (ints xs)) :
    Calls Tryd.prog 20 #[.slice A n c] w (RetFs xs w) := by
  have HA := Lib.hid hA; clear hA
  have HN := Lib.hid hn; clear hn
  obtain ⟨i0, hi0, hz0, hz1, hz2⟩ := info_parts info_Frame
  have HI := Lib.hid (And.intro hi0 (And.intro hz0 (And.intro hz1 hz2))); clear hi0 hz0 hz1 hz2
  go_enter Tryd.func20, Tryd.ntmps20
  go_wp2_with fail
  go_loopw [0, 4, 5] (fun l v sk wr => ∃ (ys : List Int) (A' : Option Addr) (m c' : Nat) (rs : List FR) (B : Option Addr) (d s : Nat), l = .slice A' m c' ∧ v = .slice B rs.length d ∧ sk = .int .i64 s ∧ Hid (ys.length = m) ∧ m ≤ c' ∧ Hid (Rd w A' (ints ys)) ∧ Hid (RowF wr w.heap.size B d rs) ∧ Hid (rdFs xs = (vals rs ++ (rdFs ys).1, s + (rdFs ys).2)) ∧ s + rs.length + m ≤ n ∧ Below w.heap.size w wr) (fun l _ _ _ => lenV l)
  case atStart => exact ⟨xs, A, n, c, [], none, 0, 0, rfl, rfl, rfl, HN.out, hcap, HA.out, rowF_nil _ _, (by rw [Hid]; simp [vals]), (by simp), Below.refl _ _⟩
  case round =>
    obtain ⟨ys, A', m, c', rs, B, d, s, rfl, rfl, rfl, HL, hmc, HR, HRW, HV, hsn, hbw⟩ := hrel
    by_cases hm0 : 0 < m
    case neg =>
      go_wp2_with fail
      have hm0' : m = 0 := by omega
      have h1 := HV.out
      rw [rdFs_nil' (ys := ys) (by rw [HL.out]; exact hm0')] at h1
      exact bodyPost_ret (v := .tuple #[.slice B rs.length d, .int .i64 s]) (by simp [results, Tryd.results20, go_sem]) rfl ⟨B, d, rs, by rw [h1]; simp, HRW.out, by rw [h1]; simp, hbw⟩
    have hbr := hbw.size
    go_wp2_with fail
    refine (implRF A' m c' ys _ HL.out (by omega) hmc (HR.out.below hbw)).mono ?_
    rintro e wq ⟨BX, dX, rfl, hoX, hbn⟩
    cases hok : rdOk ys with
    | false =>
      obtain ⟨e1, e2, e3⟩ := rd_no hok
      rw [e1, e2, e3, List.length_nil]
      have HV2 := Lib.hid (step_no HV.out (by rw [HL.out]; exact hm0) hok)
      clear hoX e1 e2 e3 hok
      have hi3 : (1 : Int) ≤ (m : Int) := by omega
      have hi2 : (m : Int) ≤ (c' : Int) := by omega
      have hi4 : (1 : Int) ≤ (c' : Int) := by omega
      have hbf := allocB hbn (.cells #[.int .i64 0, .slice BX 0 dX] 25)
      have hbw2 := seqB hbw hbf
      have hrw2 : RowF (wq.alloc (.cells #[.int .i64 0, .slice BX 0 dX] 25)) w.heap.size B d rs := ⟨row_below HRW.out.1 hbf, fun r hr => (HRW.out.2.1 r hr).below hbf, HRW.out.2.2⟩
      have HRW2 := Lib.hid hrw2; clear hrw2
      obtain ⟨b, o, rfl, _, _⟩ := HR.out (by rw [ints_length, HL.out]; exact hm0)
      by_cases hc1 : c' = 1
      · subst hc1
        have hm1 : m = 1 := by omega
        subst hm1
        go_wp2_with fail
        go_roundw
        case rel => exact ⟨ys.drop 1, _, 0, 0, rs, B, d, s + 1, rfl, rfl, by go_num, by rw [Hid]; simp [HL.out], by omega, by rw [Hid, List.drop_eq_nil_of_le (by rw [HL.out]; omega)]; exact Rd.nil, HRW2.out, HV2.out, by omega, hbw2⟩
        case measure => simp [lenV]
      · go_wp2_with fail
        go_roundw
        case rel => exact ⟨ys.drop 1, _, m - 1, _, rs, B, d, s + 1, by go_num, rfl, by go_num, by rw [Hid]; simp [HL.out], by omega, by rw [Hid, ints_drop]; exact rdPart HR.out, HRW2.out, HV2.out, by omega, hbw2⟩
        case measure => simp [lenV]; omega
    | true =>
      have hN5 := rdN_pos hok
      have hNm := rdN_le ys
      rw [HL.out] at hNm
      have hVl := rdB_len ys
      generalize hN : rdN ys = N at *
      generalize ha : rdA ys = a at *
      generalize hV : rdB ys = V at *
      have HV2 := Lib.hid (step_yes (r := ⟨a, BX, dX, V⟩) HV.out hok ha.symm hV.symm)
      rw [hN] at HV2
      clear hok hN ha hV
      have hN0 : ((N : Int) == 0) = false := beq_eq_false_iff_ne.2 (by omega)
      have hbf := allocB hbn (.cells #[.int .i64 a, .slice BX V.length dX] 25)
      have HBF := Lib.hid hbf
      have hrow : (wq.alloc (.cells #[.int .i64 a, .slice BX V.length dX] 25)).ownsRow w.heap.size 25 2 (.slice B rs.length d) rs.length (flatF rs) := row_below HRW.out.1 hbf
      have HOX := Lib.hid (hoX.below (allocB (Below.refl _ _) (.cells #[.int .i64 a, .slice BX V.length dX] 25)))
      have hbw2 := seqB hbw hbf
      have x0 : (wq.alloc (.cells #[.int .i64 a, .slice BX V.length dX] 25)).cell? ⟨wq.heap.size, 0, none⟩ = some (.int .i64 a) := one_box wq #[.int .i64 a, .slice BX V.length dX] 25 0
      have x1 : (wq.alloc (.cells #[.int .i64 a, .slice BX V.length dX] 25)).cell? ⟨wq.heap.size, 1, none⟩ = some (.slice BX V.length dX) := one_box wq #[.int .i64 a, .slice BX V.length dX] 25 1
      have hsz : (wq.alloc (.cells #[.int .i64 a, .slice BX V.length dX] 25)).heap.size = wq.heap.size + 1 := by simp
      have hrd2 := rd_new (wq.alloc (.cells #[.int .i64 a, .slice BX V.length dX] 25)) #[.int .i64 a, .slice BX V.length dX] 25
      rw [hsz] at hrd2
      have hbq := hbn.size
      clear hoX hbn hbf hsz
      have hi2 : (m : Int) ≤ (c' : Int) := by omega
      have hi3 : (N : Int) ≤ (m : Int) := by omega
      have hi4 : (N : Int) ≤ (c' : Int) := by omega
      obtain ⟨b, o, rfl, _, _⟩ := HR.out (by rw [ints_length, HL.out]; exact hm0)
      by_cases hc1 : c' = N
      · subst hc1
        have hm1 : m = c' := by omega
        subst hm1
        go_wp2_with (at_builtin; refine wpList_appN _ rfl _ _ _ rfl w.heap.size 25 i0 _ 2 32 Tryd.underlying36 HI.out rfl (by omega) _ rs.length _ rfl (hrow.alloc _) (some ⟨wq.heap.size + 1, 0, none⟩) 1 1 [.int .i64 a, .slice BX V.length dX] rfl rfl hrd2 (fun e => by cases e) (by simp [Value.oneCell']) (by omega) (by omega) (by simp; omega) ?_; intro v' w3 hown3 hg3; have hbw3 := row_alloc_grown hbw2 rfl hrow hg3; obtain ⟨B', d', rfl, hr'⟩ := snocF (r := ⟨a, BX, dX, V⟩) HRW.out hbr HBF.out HOX.out hown3 hg3; have HR' := Lib.hid hr'; clear hr' hg3 hown3 hrow hbw2 x0 x1 hrd2)
        go_roundw
        case rel => exact ⟨ys.drop m, _, 0, 0, rs ++ [FR.mk a BX dX V], B', d', s, rfl, by simp, rfl, by rw [Hid]; simp [HL.out], by omega, by rw [Hid, List.drop_eq_nil_of_le (by rw [HL.out]; omega)]; exact Rd.nil, HR'.out, HV2.out, by simp; omega, hbw3⟩
        case measure => simp [lenV]; omega
      · go_wp2_with (at_builtin; refine wpList_appN _ rfl _ _ _ rfl w.heap.size 25 i0 _ 2 32 Tryd.underlying36 HI.out rfl (by omega) _ rs.length _ rfl (hrow.alloc _) (some ⟨wq.heap.size + 1, 0, none⟩) 1 1 [.int .i64 a, .slice BX V.length dX] rfl rfl hrd2 (fun e => by cases e) (by simp [Value.oneCell']) (by omega) (by omega) (by simp; omega) ?_; intro v' w3 hown3 hg3; have hbw3 := row_alloc_grown hbw2 rfl hrow hg3; obtain ⟨B', d', rfl, hr'⟩ := snocF (r := ⟨a, BX, dX, V⟩) HRW.out hbr HBF.out HOX.out hown3 hg3; have HR' := Lib.hid hr'; clear hr' hg3 hown3 hrow hbw2 x0 x1 hrd2)
        go_roundw
        case rel => exact ⟨ys.drop N, _, m - N, _, rs ++ [FR.mk a BX dX V], B', d', s, by go_num, by simp, rfl, by rw [Hid]; simp [HL.out], by omega, by rw [Hid, ints_drop]; exact rdPart HR.out, HR'.out, HV2.out, by simp; omega, hbw3⟩
        case measure => simp [lenV]; omega
set_option maxRecDepth 100000 in
set_option maxHeartbeats 2000000 in
theorem specRFs (A : Option Addr) (n c : Nat) (xs : List Int) (w : World) (hn : xs.length = n) (hm : n ≤ 1048576) (hcap : n ≤ c) (hA : Rd w A (ints xs)) :
    Calls Tryd.prog 21 #[.slice A n c] w (RetFs xs w) := by
  have HA := Lib.hid hA; clear hA
  have HN := Lib.hid hn; clear hn
  obtain ⟨i0, hi0, hz0, hz1, hz2⟩ := info_parts info_Frame
  have HI := Lib.hid (And.intro hi0 (And.intro hz0 (And.intro hz1 hz2))); clear hi0 hz0 hz1 hz2
  have hlit : (w.alloc (.cells #[] 25)).ownsRow w.heap.size 25 2 (.slice (some ⟨w.heap.size, 0, none⟩) 0 0) 0 [] := World.ownsRow_lit w #[] 0 (Nat.le_refl _) (Nat.zero_le _) rfl
  have HLI := Lib.hid hlit; clear hlit
  go_enter Tryd.func21, Tryd.ntmps21
  go_wp2_with fail
  go_loopw [4, 5, 6] (fun v sk at_ wr => ∃ (j : Nat) (rs : List FR) (B : Option Addr) (d s : Nat), j ≤ n ∧ at_ = .int .i64 j ∧ v = .slice B rs.length d ∧ sk = .int .i64 s ∧ Hid (RowF wr w.heap.size B d rs) ∧ Hid (rdFs xs = (vals rs ++ (rdFs (xs.drop j)).1, s + (rdFs (xs.drop j)).2)) ∧ s + rs.length ≤ j ∧ Below w.heap.size w wr) (fun _ _ at_ _ => n - (intOf at_).toNat)
  case atStart => exact ⟨0, [], some ⟨w.heap.size, 0, none⟩, 0, 0, by omega, rfl, rfl, rfl, ⟨HLI.out, by simp, List.Pairwise.nil⟩, (by rw [Hid]; simp [vals]), (by simp), allocB (Below.refl _ _) _⟩
  case round =>
    obtain ⟨j, rs, B, d, s, hj, rfl, rfl, rfl, HRW, HV, hsn, hbw⟩ := hrel
    by_cases hjn : j < n
    case neg =>
      go_wp2_with fail
      have h1 := HV.out
      rw [rdFs_nil' (ys := xs.drop j) (by simp [HN.out]; omega)] at h1
      exact bodyPost_ret (v := .tuple #[.slice B rs.length d, .int .i64 s]) (by simp [results, Tryd.results21, go_sem]) rfl ⟨B, d, rs, by rw [h1]; simp, HRW.out, by rw [h1]; simp, hbw⟩
    have hbr := hbw.size
    obtain ⟨b, o, rfl, _, _⟩ := HA.out (by rw [ints_length, HN.out]; omega)
    have HL : Hid ((xs.drop j).length = n - j) := by rw [Hid]; simp [HN.out]
    have HRJ : Hid (Rd w (some ⟨b, o + j, none⟩) (ints (xs.drop j))) := by rw [Hid, ints_drop]; exact rdPart HA.out
    have hi1 : (0 : Int) ≤ (j : Int) := by omega
    have hi2 : (n : Int) ≤ (c : Int) := by omega
    have hi3 : (j : Int) ≤ (n : Int) := by omega
    have hi4 : ¬ c = j := by omega
    go_wp2_with fail
    refine (specRF (some ⟨b, o + j, none⟩) (n - j) (c - j) (xs.drop j) _ HL.out (by omega) (by omega) (HRJ.out.below hbw)).mono ?_
    rintro e wq ⟨BX, dX, rfl, hoX, hbn⟩
    have HD : Hid (∀ k, (xs.drop j).drop k = xs.drop (j + k)) := fun k => List.drop_drop
    cases hok : rdOk (xs.drop j) with
    | false =>
      obtain ⟨e1, e2, e3⟩ := rd_no hok
      rw [e1, e2, e3, List.length_nil]
      have hv2 := step_no HV.out (by rw [HL.out]; omega) hok
      rw [HD.out] at hv2
      have HV2 := Lib.hid hv2
      clear hoX e1 e2 e3 hok hv2
      have hbf := allocB hbn (.cells #[.int .i64 0, .slice BX 0 dX] 25)
      have hbw2 := seqB hbw hbf
      have hrw2 : RowF (wq.alloc (.cells #[.int .i64 0, .slice BX 0 dX] 25)) w.heap.size B d rs := ⟨row_below HRW.out.1 hbf, fun r hr => (HRW.out.2.1 r hr).below hbf, HRW.out.2.2⟩
      have HRW2 := Lib.hid hrw2; clear hrw2
      go_wp2_with fail
      go_roundw
      case rel => exact ⟨j + 1, rs, B, d, s + 1, by omega, by go_num, rfl, by go_num, HRW2.out, HV2.out, by omega, hbw2⟩
      case measure => simp [intOf]; omega
    | true =>
      have hN5 := rdN_pos hok
      have hNm := rdN_le (xs.drop j)
      rw [HL.out] at hNm
      have hVl := rdB_len (xs.drop j)
      generalize hN : rdN (xs.drop j) = N at *
      generalize ha : rdA (xs.drop j) = a at *
      generalize hV : rdB (xs.drop j) = V at *
      have hv2 := step_yes (r := ⟨a, BX, dX, V⟩) HV.out hok ha.symm hV.symm
      rw [hN, HD.out] at hv2
      have HV2 := Lib.hid hv2
      clear hok hN ha hV hv2
      have hN0 : (0 : Int) < (N : Int) := by omega
      have hbf := allocB hbn (.cells #[.int .i64 a, .slice BX V.length dX] 25)
      have HBF := Lib.hid hbf
      have hrow : (wq.alloc (.cells #[.int .i64 a, .slice BX V.length dX] 25)).ownsRow w.heap.size 25 2 (.slice B rs.length d) rs.length (flatF rs) := row_below HRW.out.1 hbf
      have HOX := Lib.hid (hoX.below (allocB (Below.refl _ _) (.cells #[.int .i64 a, .slice BX V.length dX] 25)))
      have hbw2 := seqB hbw hbf
      have x0 : (wq.alloc (.cells #[.int .i64 a, .slice BX V.length dX] 25)).cell? ⟨wq.heap.size, 0, none⟩ = some (.int .i64 a) := one_box wq #[.int .i64 a, .slice BX V.length dX] 25 0
      have x1 : (wq.alloc (.cells #[.int .i64 a, .slice BX V.length dX] 25)).cell? ⟨wq.heap.size, 1, none⟩ = some (.slice BX V.length dX) := one_box wq #[.int .i64 a, .slice BX V.length dX] 25 1
      have hsz : (wq.alloc (.cells #[.int .i64 a, .slice BX V.length dX] 25)).heap.size = wq.heap.size + 1 := by simp
      have hrd2 := rd_new (wq.alloc (.cells #[.int .i64 a, .slice BX V.length dX] 25)) #[.int .i64 a, .slice BX V.length dX] 25
      rw [hsz] at hrd2
      have hbq := hbn.size
      clear hoX hbn hbf hsz
      go_wp2_with (at_builtin; refine wpList_appN _ rfl _ _ _ rfl w.heap.size 25 i0 _ 2 32 Tryd.underlying36 HI.out rfl (by omega) _ rs.length _ rfl (hrow.alloc _) (some ⟨wq.heap.size + 1, 0, none⟩) 1 1 [.int .i64 a, .slice BX V.length dX] rfl rfl hrd2 (fun e => by cases e) (by simp [Value.oneCell']) (by omega) (by omega) (by simp; omega) ?_; intro v' w3 hown3 hg3; have hbw3 := row_alloc_grown hbw2 rfl hrow hg3; obtain ⟨B', d', rfl, hr'⟩ := snocF (r := ⟨a, BX, dX, V⟩) HRW.out hbr HBF.out HOX.out hown3 hg3; have HR' := Lib.hid hr'; clear hr' hg3 hown3 hrow hbw2 x0 x1 hrd2)
      go_roundw
      case rel => exact ⟨j + N, rs ++ [FR.mk a BX dX V], B', d', s, by omega, by go_num, by simp, rfl, HR'.out, HV2.out, by simp; omega, hbw3⟩
      case measure => simp [intOf]; omega
end Go.Proofs.YtddiloillgbneaaDoor
