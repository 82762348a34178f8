/- The contract of the reference's ReadFrame. No statement is proved here. -/
import Derived.Test.YtddiloillgbneaaDoorFrmR
namespace Go.Proofs.YtddiloillgbneaaDoor
open Go.RowKit

theorem boxes2 (w : World) (o1 o2 : Obj) : ((w.alloc o1).alloc o2).heap[w.heap.size]? = some o1 ∧ ((w.alloc o1).alloc o2).heap[w.heap.size + 1]? = some o2 := by
  refine ⟨?_, ?_⟩
  · rw [Below.heap_alloc _ _ _ (by simp)]; exact heap_alloc_new w _
  · have := heap_alloc_new (w.alloc o1) o2
    simpa using this
theorem litBlock (g n c : Nat) : (Value.slice (some ⟨g, 0, none⟩) n c).ownBlock = some g := by unfold Value.ownBlock; simp
theorem row_none {w : World} {base n c : Nat} {E : TypeId} {size : Nat} {B : Option Addr} {cs : List Value} (h : w.ownsRow base E size (.slice B n c) n cs) : B = none → n = 0 ∧ c = 0 := by
  intro e
  rcases h.2 with ⟨h1, h2⟩ | ⟨g, cap, cur, h1, _⟩
  · cases h1; exact ⟨rfl, rfl⟩
  · cases h1; cases e
theorem own_setT {w : World} {base n g j : Nat} {u : Value} {E T : TypeId} {size : Nat} {A : Option Addr} {cs : List Value} {ob : Array Value} (hown : Own w base E size A n cs) (hg : Hid (w.heap[g]? = some (.cells ob T (0, 0)))) (hne : E ≠ T) : Own (w.setCell ⟨g, j, none⟩ u) base E size A n cs := by
  refine ⟨hown.1, fun hn => ?_⟩
  obtain ⟨g', cur, e, hge, hgg, ht⟩ := hown.2 hn
  refine ⟨g', cur, e, hge, (Below.heap_setCell w ⟨g, j, none⟩ u g' ?_).trans hgg, ht⟩
  intro e'
  simp at e'
  subst e'
  rw [hg.out] at hgg
  simp at hgg
  exact hne hgg.2.symm
set_option maxHeartbeats 1000000 in
theorem specRF (A : Option Addr) (n c : Nat) (xs : List Int) (w : World) (hn : xs.length = n) (hm : n ≤ 1048576) (hcap : n ≤ c) (hA : Rd w A (ints xs)) :
    Calls Tryd.prog 18 #[.slice A n c] w (RetF xs w) := by
  have HA := Lib.hid hA; clear hA
  have HN := Lib.hid hn; clear hn
  have hb0 : Below w.heap.size w (w.alloc (.cells #[.int .i64 0, .slice none 0 0] 25)) := allocB (Below.refl _ _) _
  by_cases h5 : 5 ≤ n
  case neg =>
    have HR := Lib.hid (rd_short (xs := xs) (by rw [HN.out]; omega))
    go_enter Tryd.func18, Tryd.ntmps18
    go_wp2_with fail
    exact bodyPost_ret (v := .tuple #[.agg #[.int .i64 0, .slice none 0 0], .int .i64 0]) (by simp [results, Tryd.results18, go_sem]) rfl (retF_no HR.out hb0)
  obtain ⟨b, o, rfl, hbl, hcc⟩ := HA.out.ints (by rw [HN.out]; omega)
  have hc1 := hcc 1 (by rw [HN.out]; omega)
  have hc2 := hcc 2 (by rw [HN.out]; omega)
  clear hcc
  generalize hy : xs.getD 1 0 = y at *
  generalize hz : xs.getD 2 0 = z at *
  have HY := Lib.hid hy; have HZ := Lib.hid hz; clear hy hz
  cases hin : inB y 0 12 with
  | false =>
    have HR := Lib.hid (rd_cnt (xs := xs) (by rw [HY.out]; exact hin))
    go_enter Tryd.func18, Tryd.ntmps18
    go_wp2_with (go_at_call 26; refine (l1In_any _ _ _ _).mono ?_; rintro e w' ⟨rfl, rfl⟩)
    exact bodyPost_ret (v := .tuple #[.agg #[.int .i64 0, .slice none 0 0], .int .i64 0]) (by simp [results, Tryd.results18, go_sem]) rfl (retF_no HR.out hb0)
  | true =>
    have hin' := (inB_iff _ _ _).1 hin
    obtain ⟨k, rfl⟩ : ∃ k : Nat, y = k := ⟨y.toNat, by omega⟩
    have HK : Hid (rdCnt xs = k) := by rw [Hid, rdCnt, HY.out]; simp
    by_cases hl : 5 + k ≤ n
    case neg =>
      have HR := Lib.hid (rd_len (xs := xs) (by rw [HK.out, HN.out]; omega))
      have hlt : (n : Int) < (k : Int) + 5 := by omega
      go_enter Tryd.func18, Tryd.ntmps18
      go_wp2_with (go_at_call 26; refine (l1In_any _ _ _ _).mono ?_; rintro e w' ⟨rfl, rfl⟩)
      exact bodyPost_ret (v := .tuple #[.agg #[.int .i64 0, .slice none 0 0], .int .i64 0]) (by simp [results, Tryd.results18, go_sem]) rfl (retF_no HR.out hb0)
    have HR := Lib.hid (rd_eq (xs := xs) (by rw [HN.out]; exact h5) (by rw [HY.out]; exact hin) (by rw [HK.out, HN.out]; omega))
    have hlt : ¬ ((n : Int) < (k : Int) + 5) := by omega
    obtain ⟨i0, hi0, hz0, hz1, hz2⟩ := info_parts info_int
    have HI := Lib.hid (And.intro hi0 (And.intro hz0 (And.intro hz1 hz2))); clear hi0 hz0 hz1 hz2
    go_enter Tryd.func18, Tryd.ntmps18
    go_wp2_with (go_at_call 26; refine (l1In_any _ _ _ _).mono ?_; rintro e w' ⟨rfl, rfl⟩)
    clear hin
    have hd2 := keepC hc2 hb0
    have hw2 : IntKind.i64.wrap ((k : Int) + 5 - 2) = (k : Int) + 3 := by rw [show (k : Int) + 5 - 2 = (k : Int) + 3 by omega]; exact IntWalk.i64_in _ (by omega)
    have hx1 : (2 : Int) < (n : Int) := by omega
    have hx2 : 0 ≤ (k : Int) + 3 ∧ (k : Int) + 3 ≤ (c : Int) := by omega
    have hx3 : 3 ≤ max ((k : Int) + 3) 0 := by omega
    have hx4 : ¬ c = 3 := by omega
    have hx5 : ((k : Int) + 3).toNat - 3 = k := by omega
    have HBL := Lib.hid (show (rdBody xs).length = k by rw [rdBody_len (by rw [HK.out, HN.out]; omega), HK.out])
    have hb00 := hb0
    have HR0 : Hid ((w.alloc (.cells #[.int .i64 0, .slice none 0 0] 25)).heap[w.heap.size]? = some (.cells #[.int .i64 0, .slice none 0 0] 25 (0, 0))) := heap_alloc_new w _
    have hsz0 : w.heap.size < (w.alloc (.cells #[.int .i64 0, .slice none 0 0] 25)).heap.size := by simp
    replace hb0 := drew1B hb0
    have hrdx := HA.out.below hb0
    have HRD := Lib.hid (rdBody_rd (k := k) HK.out hrdx)
    have HRX := Lib.hid hrdx
    clear hrdx
    generalize w.alloc (.cells #[.int .i64 0, .slice none 0 0] 25) = w0 at *
    have hd2d : w0.drew.cell? ⟨b, o + 2, none⟩ = some (.int .i64 z) := hd2
    have hbz : b < w0.heap.size := World.block_lt_of_cell? _ _ hd2
    have L1 := Lib.hid (World.ownsRow_lit (base := w0.drew.heap.size) (e := 3) (size := 1) w0.drew #[] 0 (Nat.le_refl _) (Nat.zero_le _) rfl)
    have L2 := Lib.hid (L1.out.alloc (.cells #[.int .i64 0, .slice none 0 0] 25))
    have L3 : Hid (((w0.drew.alloc (.cells #[.int .i64 0, .slice none 0 0] 25)).alloc (.cells #[] 3)).ownsRow w0.drew.heap.size 3 1 (.slice (some ⟨w0.heap.size + 1, 0, none⟩) 0 0) 0 []) := by
      have h := World.ownsRow_lit (base := w0.drew.heap.size) (e := 3) (size := 1) (w0.drew.alloc (.cells #[.int .i64 0, .slice none 0 0] 25)) #[] 0 (by simp) (Nat.zero_le _) rfl
      have e : (w0.drew.alloc (.cells #[.int .i64 0, .slice none 0 0] 25)).heap.size = w0.heap.size + 1 := by simp
      rw [e] at h; exact h
    have C1 := Lib.hid (allocB (Below.refl w0.drew.heap.size w0.drew) (.cells #[] 3))
    have C2 := Lib.hid (allocB C1.out (.cells #[.int .i64 0, .slice none 0 0] 25))
    have C3 := Lib.hid (allocB (allocB (Below.refl w0.drew.heap.size w0.drew) (.cells #[.int .i64 0, .slice none 0 0] 25)) (.cells #[] 3))
    have HLE : Hid ((ints (rdBody xs)).length = k * 1) := by rw [Hid, ints_length, HBL.out, Nat.mul_one]
    have hsome : (some ⟨b, o + 3, none⟩ : Option Addr) = none → k = 0 ∧ c - 3 = 0 := fun e => by cases e
    have hk10 : 0 + k ≤ 10000000 := by omega
    have h8 : 8 ≤ 1000 := by omega
    have N2 : Hid (w0.heap.size + 1 < ((w0.drew.alloc (.cells #[] 3)).alloc (.cells #[.int .i64 0, .slice none 0 0] 25)).heap.size) ∧ Hid (some (w0.heap.size + 1) ≠ (Value.slice (some ⟨w0.drew.heap.size, 0, none⟩) 0 0).ownBlock) := ⟨by rw [Hid]; simp, by rw [Hid, litBlock]; simp⟩
    have N3 : Hid (w0.heap.size < ((w0.drew.alloc (.cells #[.int .i64 0, .slice none 0 0] 25)).alloc (.cells #[] 3)).heap.size) ∧ Hid (some w0.heap.size ≠ (Value.slice (some ⟨w0.heap.size + 1, 0, none⟩) 0 0).ownBlock) := ⟨by rw [Hid]; simp; omega, by rw [Hid, litBlock]; simp⟩
    go_region_held3 (fun W => W.cell? ⟨b, o + 2, none⟩ = some (.int .i64 z)) (first | go_keep | exact keepC hd2d C1.out | exact keepC hd2d C2.out | exact keepC hd2d C3.out | exact keepC hd2d (allocB (Below.refl _ _) _) | exact keepC hd2d hbq | exact keepC hd2d (allocB hbq _) | exact set2_far (keepC hd2d hbq) (by omega)) (first | (refine step_appN (w0.drew.alloc (.cells #[] 3)) rfl _ _ _ rfl w0.drew.heap.size 3 i0 _ 1 8 Tryd.underlying23 HI.out rfl Nat.one_pos _ 0 [] rfl L1.out (some ⟨b, o + 3, none⟩) k (c - 3) (ints (rdBody xs)) rfl HLE.out (HRD.out.below C1.out) hsome (ints_one _) hk10 h8 C1.out.size ?_; intro v1 wq hown hg; have hbq : Below w0.drew.heap.size w0.drew wq := grown_row C1.out rfl L1.out hg; obtain ⟨B, d, rfl, hrow⟩ := row_is (n' := k) (cs' := ints (rdBody xs)) hown (Nat.zero_add k) (List.nil_append _); clear hown; clear hg) | (refine step_appN ((w0.drew.alloc (.cells #[] 3)).alloc (.cells #[.int .i64 0, .slice none 0 0] 25)) rfl _ _ _ rfl w0.drew.heap.size 3 i0 _ 1 8 Tryd.underlying23 HI.out rfl Nat.one_pos _ 0 [] rfl L2.out (some ⟨b, o + 3, none⟩) k (c - 3) (ints (rdBody xs)) rfl HLE.out (HRD.out.below C2.out) hsome (ints_one _) hk10 h8 C2.out.size ?_; intro v1 wq hown hg; have hbq : Below w0.drew.heap.size w0.drew wq := grown_row C2.out rfl L2.out hg; obtain ⟨B, d, rfl, hrow⟩ := row_is (n' := k) (cs' := ints (rdBody xs)) hown (Nat.zero_add k) (List.nil_append _); clear hown; have Bz : Hid (wq.heap[w0.heap.size + 1]? = some (.cells #[.int .i64 0, .slice none 0 0] 25)) := Lib.hid ((hg.block (w0.heap.size + 1) N2.1.out N2.2.out).trans (boxes2 w0.drew (.cells #[] 3) (.cells #[.int .i64 0, .slice none 0 0] 25)).2); have y0 := box_cell Bz 0; have y1 := box_cell Bz 1; have y2 := box_free Bz 0; have y3 := box_free Bz 1; simp at y0 y1; clear hg) | (refine step_appN ((w0.drew.alloc (.cells #[.int .i64 0, .slice none 0 0] 25)).alloc (.cells #[] 3)) rfl _ _ _ rfl w0.drew.heap.size 3 i0 _ 1 8 Tryd.underlying23 HI.out rfl Nat.one_pos _ 0 [] rfl L3.out (some ⟨b, o + 3, none⟩) k (c - 3) (ints (rdBody xs)) rfl HLE.out (HRD.out.below C3.out) hsome (ints_one _) hk10 h8 C3.out.size ?_; intro v1 wq hown hg; have hbq : Below w0.drew.heap.size w0.drew wq := grown_row C3.out rfl L3.out hg; obtain ⟨B, d, rfl, hrow⟩ := row_is (n' := k) (cs' := ints (rdBody xs)) hown (Nat.zero_add k) (List.nil_append _); clear hown; have Bz : Hid (wq.heap[w0.heap.size]? = some (.cells #[.int .i64 0, .slice none 0 0] 25)) := Lib.hid ((hg.block (w0.heap.size) N3.1.out N3.2.out).trans (boxes2 w0.drew (.cells #[.int .i64 0, .slice none 0 0] 25) (.cells #[] 3)).1); have y0 := box_cell Bz 0; have y1 := box_cell Bz 1; have y2 := box_free Bz 0; have y3 := box_free Bz 1; simp at y0 y1; clear hg))

    · have hf := new_box wq (.cells #[.int .i64 z, .slice B k d] 25)
      have hr := be_box (be_box (be_box HR0 (drew1B (Below.refl _ _))) hbq) (allocB (Below.refl _ _) (.cells #[.int .i64 z, .slice B k d] 25))
      have hbW := allocB (seqB hb0 hbq) (.cells #[.int .i64 z, .slice B k d] 25)
      have hoW := (row_own (hrow.alloc (.cells #[.int .i64 z, .slice B k d] 25))).mono (show w.heap.size + 1 ≤ _ by simp; omega)
      have hrx := (HRX.out.below hbq).below (allocB (Below.refl _ _) (.cells #[.int .i64 z, .slice B k d] 25))
      have hgf : w.heap.size < wq.heap.size := by have := hbq.size; simp at this; omega
      generalize wq.alloc (.cells #[.int .i64 z, .slice B k d] 25) = W at *
      generalize wq.heap.size = gf at *
      have hnil := row_none hrow
      clear hrow hbq HRX hb0 HRD L1 L2 L3 C1 C2 C3 N2 N3 HLE hsome hk10 h8
      have f0 := box_cell hf 0
      have f1 := box_cell hf 1
      simp at f0 f1
      go_wp2_with fail
      refine (specFB z B k d (rdBody xs) _ HBL.out (by omega) hoW.rd hnil).mono ?_
      rintro e wf ⟨B2, d2, rfl, ho2, hbf⟩
      clear f0 f1
      replace hf := be_box hf hbf
      replace hr := be_box hr hbf
      replace hbW := seqB hbW hbf
      replace hoW := hoW.below hbf
      replace hrx := hrx.below hbf
      clear hbf
      have hFl := frmBytes_len z (rdBody xs)
      have HTL := Lib.hid (show (xs.take (k + 5)).length = k + 5 by simp; have := HN.out; omega)
      have HEQ : Hid (rdOk xs = decide (frmBytes z (rdBody xs) = xs.take (k + 5))) := by rw [Hid, HR.out, HZ.out, HK.out]
      generalize frmBytes z (rdBody xs) = FB at *
      have HRXX := Lib.hid hrx; clear hrx
      have HO2 := Lib.hid ho2.rd; clear ho2
      have ZERO : Hid (rdOk xs = false → ∀ q : Nat, RetF xs w (.returned (.tuple #[.agg #[.int .i64 0, .slice none 0 0], .int .i64 0])) (((wf.drewN q).setCell ⟨w.heap.size, 0, none⟩ (.int .i64 0)).setCell ⟨w.heap.size, 1, none⟩ (.slice none 0 0))) := fun h q => retF_no h (be_set (be_set (drewNB hbW q) (Nat.le_refl _)) (Nat.le_refl _))
      by_cases hFk : FB.length = k + 5
      case neg =>
        have hnz : ((FB.length : Int) != (k : Int) + 5) = true := by simp; omega
        have HOK : Hid (rdOk xs = false) := by rw [Hid, HEQ.out]; exact decide_eq_false (fun e => hFk (by rw [e, HTL.out]))
        have r0 := box_cell hr 0
        have r1 := box_cell hr 1
        have r2 := box_free hr 0
        have r3 := box_free hr 1
        simp at r0 r1
        go_wp2_with fail
        have R1 := st_same hr 0 (.int .i64 0)
        have R2 := st_same R1 1 (.slice none 0 0)
        have s1 := box_cell R1 0
        have s2 := box_cell R2 1
        simp at s1 s2
        exact bodyPost_ret (v := .tuple #[.agg #[.int .i64 0, .slice none 0 0], .int .i64 0]) (by simp [results, Tryd.results18, go_sem, s1, s2]) rfl (ZERO.out HOK.out 0)
      have hnz : ((FB.length : Int) != (k : Int) + 5) = false := by simp; omega
      have HFK := Lib.hid hFk; clear hFk
      go_wp2_with fail
      go_loopw [7] (fun i wr => ∃ j : Nat, j ≤ k + 5 ∧ i = .int .i64 j ∧ Hid (FB.take j = xs.take j) ∧ ∃ q, wr = wf.drewN q) (fun i _ => k + 5 - (intOf i).toNat)
      case atStart => exact ⟨0, by omega, rfl, by simp [Hid], 0, rfl⟩
      case round =>
        obtain ⟨j, hj, rfl, hp, q, rfl⟩ := hrel
        by_cases hjl : j < k + 5
        · have hj1 : (j : Int) < (k : Int) + 5 := by omega
          obtain ⟨b2, o2, rfl, _, hq1⟩ := HO2.out.int (k := j) (by rw [HFK.out]; omega)
          obtain ⟨b3, o3, e3, _, hq2⟩ := HRXX.out.int (k := j) (by rw [HN.out]; omega)
          cases e3
          have hjn : (j : Int) < (n : Int) := by omega
          have hjf : (j : Int) < (FB.length : Int) := by have := HFK.out; omega
          have T1 := Lib.hid (show FB.take (j + 1) = FB.take j ++ [FB.getD j 0] by rw [List.take_succ_eq_append_getElem (by rw [HFK.out]; omega)]; simp [show j < FB.length by have := HFK.out; omega])
          have T2 := Lib.hid (show xs.take (j + 1) = xs.take j ++ [xs.getD j 0] by rw [List.take_succ_eq_append_getElem (by rw [HN.out]; omega)]; simp [show j < xs.length by have := HN.out; omega])
          generalize hx : FB.getD j 0 = x at *
          generalize hy : xs.getD j 0 = y at *
          have HX := Lib.hid hx; have HY2 := Lib.hid hy; clear hx hy
          cases hxy : (x != y) with
          | false =>
            have hE := Lib.hid (show x = y by simpa using hxy)
            go_wp2_with fail
            go_quiet (fail)
            go_wp2_with fail
            go_roundw
            case rel => exact ⟨j + 1, by omega, by go_num, by rw [Hid, T1.out, T2.out, hp.out, hE.out], _, rfl⟩
            case measure => simp [intOf]; omega
          | true =>
            have HOK : Hid (rdOk xs = false) := by
              rw [Hid, HEQ.out]
              refine decide_eq_false (fun e => ?_)
              have h2 : FB.getD j 0 = xs.getD j 0 := by rw [e, List.getD_eq_getElem?_getD, List.getElem?_take, if_pos hjl, ← List.getD_eq_getElem?_getD]
              rw [HX.out, HY2.out] at h2
              rw [h2] at hxy
              simp at hxy
            have hr' : Hid ((wf.drewN q).heap[w.heap.size]? = _) := hr
            have r0 := box_cell hr' 0
            have r1 := box_cell hr' 1
            have r2 := box_free hr' 0
            have r3 := box_free hr' 1
            simp at r0 r1 r2 r3
            go_wp2_with fail
            go_quiet (fail)
            go_wp2_with fail
            have hr3 : Hid ((wf.drewN (q + nq)).heap[w.heap.size]? = _) := hr
            have R1 := st_same hr3 0 (.int .i64 0)
            have R2 := st_same R1 1 (.slice none 0 0)
            have s1 := box_cell R1 0
            have s2 := box_cell R2 1
            simp at s1 s2
            exact bodyPost_ret (v := .tuple #[.agg #[.int .i64 0, .slice none 0 0], .int .i64 0]) (by simp [results, Tryd.results18, go_sem, s1, s2]) rfl (ZERO.out HOK.out _)
        · have hj1 : ¬ ((j : Int) < (k : Int) + 5) := by omega
          have hok : rdOk xs = true := by
            rw [HEQ.out]
            refine decide_eq_true ?_
            have h := hp.out
            have hjk : j = k + 5 := by omega
            rw [hjk, List.take_of_length_le (by rw [HFK.out]; omega)] at h
            exact h
          have HOK := Lib.hid (rd_yes hok); clear hok
          have hr' : Hid ((wf.drewN q).heap[w.heap.size]? = _) := hr
          have hf' : Hid ((wf.drewN q).heap[gf]? = _) := hf
          have r0 := box_cell hr' 0
          have r1 := box_cell hr' 1
          have r2 := box_free hr' 0
          have r3 := box_free hr' 1
          have f0 := box_cell hf' 0
          have f1 := box_cell hf' 1
          simp at r0 r1 f0 f1
          go_wp2_with fail
          have R1 := st_same hr' 0 (.int .i64 z)
          have R2 := st_same R1 1 (.slice B k d)
          have s1 := box_cell R1 0
          have s2 := box_cell R2 1
          simp at s1 s2
          have hpp : RetF xs w (.returned (.tuple #[.agg #[.int .i64 z, .slice B k d], .int .i64 (k + 5)])) (((wf.drewN q).setCell ⟨w.heap.size, 0, none⟩ (.int .i64 z)).setCell ⟨w.heap.size, 1, none⟩ (.slice B k d)) := by
            obtain ⟨e1, e2, e3⟩ := HOK.out
            refine ⟨B, d, ?_, ?_, be_set (be_set (drewNB hbW q) (Nat.le_refl _)) (Nat.le_refl _)⟩
            · rw [e1, e2, e3, HBL.out, HK.out, HZ.out, show ((k + 5 : Nat) : Int) = (k : Int) + 5 by omega]
            · rw [e3, HBL.out]
              exact (own_set (own_set (show Own (wf.drewN q) _ _ _ _ _ _ from hoW) (Nat.lt_succ_self _)) (Nat.lt_succ_self _)).mono (Nat.le_succ _)
          exact bodyPost_ret (v := .tuple #[.agg #[.int .i64 z, .slice B k d], .int .i64 (k + 5)]) (by simp [results, Tryd.results18, go_sem, s1, s2]) rfl hpp
    · have hf := st_same (st_same Bz 0 (.int .i64 z)) 1 (.slice B k d)
      have hr0 := be_box (be_box HR0 (drew1B (Below.refl _ _))) hbq
      have hr := st_box (g' := (w0.heap.size + 1)) (j := 1) (st_box (g' := (w0.heap.size + 1)) (j := 0) hr0 (.int .i64 z) (by omega)) (.slice B k d) (by omega)
      have hbW := be_set (g := (w0.heap.size + 1)) (j := 1) (u := .slice B k d) (be_set (g := (w0.heap.size + 1)) (j := 0) (u := .int .i64 z) (seqB hb0 hbq) (by omega)) (by omega)
      have hrx := rd_set2 (u := .int .i64 z) (u' := .slice B k d) (j := 0) (j' := 1) (HRX.out.below hbq) (show b ≠ (w0.heap.size + 1) by omega)
      have hgf : w.heap.size < (w0.heap.size + 1) := by omega
      have hoq := row_own hrow
      have hnil := row_none hrow
      have hoW := (own_setT (j := 1) (u := .slice B k d) (own_setT (j := 0) (u := .int .i64 z) hoq Bz (by decide)) (st_same Bz 0 (.int .i64 z)) (by decide)).mono (show w.heap.size + 1 ≤ _ by simp; omega)
      clear hoq
      replace hf : Hid (((wq.setCell ⟨w0.heap.size + 1, 0, none⟩ (.int .i64 z)).setCell ⟨w0.heap.size + 1, 1, none⟩ (.slice B k d)).heap[w0.heap.size + 1]? = some (.cells #[.int .i64 z, .slice B k d] 25 (0, 0))) := hf
      generalize (wq.setCell ⟨w0.heap.size + 1, 0, none⟩ (.int .i64 z)).setCell ⟨w0.heap.size + 1, 1, none⟩ (.slice B k d) = W at *
      clear hrow hbq HRX hb0 HRD L1 L2 L3 C1 C2 C3 N2 N3 HLE hsome hk10 h8 Bz y0 y1 y2 y3 hr0
      generalize hge : w0.heap.size + 1 = gf at *
      clear hge
      have f0 := box_cell hf 0
      have f1 := box_cell hf 1
      simp at f0 f1
      go_wp2_with fail
      refine (specFB z B k d (rdBody xs) _ HBL.out (by omega) hoW.rd hnil).mono ?_
      rintro e wf ⟨B2, d2, rfl, ho2, hbf⟩
      clear f0 f1
      replace hf := be_box hf hbf
      replace hr := be_box hr hbf
      replace hbW := seqB hbW hbf
      replace hoW := hoW.below hbf
      replace hrx := hrx.below hbf
      clear hbf
      have hFl := frmBytes_len z (rdBody xs)
      have HTL := Lib.hid (show (xs.take (k + 5)).length = k + 5 by simp; have := HN.out; omega)
      have HEQ : Hid (rdOk xs = decide (frmBytes z (rdBody xs) = xs.take (k + 5))) := by rw [Hid, HR.out, HZ.out, HK.out]
      generalize frmBytes z (rdBody xs) = FB at *
      have HRXX := Lib.hid hrx; clear hrx
      have HO2 := Lib.hid ho2.rd; clear ho2
      have ZERO : Hid (rdOk xs = false → ∀ q : Nat, RetF xs w (.returned (.tuple #[.agg #[.int .i64 0, .slice none 0 0], .int .i64 0])) (((wf.drewN q).setCell ⟨w.heap.size, 0, none⟩ (.int .i64 0)).setCell ⟨w.heap.size, 1, none⟩ (.slice none 0 0))) := fun h q => retF_no h (be_set (be_set (drewNB hbW q) (Nat.le_refl _)) (Nat.le_refl _))
      by_cases hFk : FB.length = k + 5
      case neg =>
        have hnz : ((FB.length : Int) != (k : Int) + 5) = true := by simp; omega
        have HOK : Hid (rdOk xs = false) := by rw [Hid, HEQ.out]; exact decide_eq_false (fun e => hFk (by rw [e, HTL.out]))
        have r0 := box_cell hr 0
        have r1 := box_cell hr 1
        have r2 := box_free hr 0
        have r3 := box_free hr 1
        simp at r0 r1
        go_wp2_with fail
        have R1 := st_same hr 0 (.int .i64 0)
        have R2 := st_same R1 1 (.slice none 0 0)
        have s1 := box_cell R1 0
        have s2 := box_cell R2 1
        simp at s1 s2
        exact bodyPost_ret (v := .tuple #[.agg #[.int .i64 0, .slice none 0 0], .int .i64 0]) (by simp [results, Tryd.results18, go_sem, s1, s2]) rfl (ZERO.out HOK.out 0)
      have hnz : ((FB.length : Int) != (k : Int) + 5) = false := by simp; omega
      have HFK := Lib.hid hFk; clear hFk
      go_wp2_with fail
      go_loopw [7] (fun i wr => ∃ j : Nat, j ≤ k + 5 ∧ i = .int .i64 j ∧ Hid (FB.take j = xs.take j) ∧ ∃ q, wr = wf.drewN q) (fun i _ => k + 5 - (intOf i).toNat)
      case atStart => exact ⟨0, by omega, rfl, by simp [Hid], 0, rfl⟩
      case round =>
        obtain ⟨j, hj, rfl, hp, q, rfl⟩ := hrel
        by_cases hjl : j < k + 5
        · have hj1 : (j : Int) < (k : Int) + 5 := by omega
          obtain ⟨b2, o2, rfl, _, hq1⟩ := HO2.out.int (k := j) (by rw [HFK.out]; omega)
          obtain ⟨b3, o3, e3, _, hq2⟩ := HRXX.out.int (k := j) (by rw [HN.out]; omega)
          cases e3
          have hjn : (j : Int) < (n : Int) := by omega
          have hjf : (j : Int) < (FB.length : Int) := by have := HFK.out; omega
          have T1 := Lib.hid (show FB.take (j + 1) = FB.take j ++ [FB.getD j 0] by rw [List.take_succ_eq_append_getElem (by rw [HFK.out]; omega)]; simp [show j < FB.length by have := HFK.out; omega])
          have T2 := Lib.hid (show xs.take (j + 1) = xs.take j ++ [xs.getD j 0] by rw [List.take_succ_eq_append_getElem (by rw [HN.out]; omega)]; simp [show j < xs.length by have := HN.out; omega])
          generalize hx : FB.getD j 0 = x at *
          generalize hy : xs.getD j 0 = y at *
          have HX := Lib.hid hx; have HY2 := Lib.hid hy; clear hx hy
          cases hxy : (x != y) with
          | false =>
            have hE := Lib.hid (show x = y by simpa using hxy)
            go_wp2_with fail
            go_quiet (fail)
            go_wp2_with fail
            go_roundw
            case rel => exact ⟨j + 1, by omega, by go_num, by rw [Hid, T1.out, T2.out, hp.out, hE.out], _, rfl⟩
            case measure => simp [intOf]; omega
          | true =>
            have HOK : Hid (rdOk xs = false) := by
              rw [Hid, HEQ.out]
              refine decide_eq_false (fun e => ?_)
              have h2 : FB.getD j 0 = xs.getD j 0 := by rw [e, List.getD_eq_getElem?_getD, List.getElem?_take, if_pos hjl, ← List.getD_eq_getElem?_getD]
              rw [HX.out, HY2.out] at h2
              rw [h2] at hxy
              simp at hxy
            have hr' : Hid ((wf.drewN q).heap[w.heap.size]? = _) := hr
            have r0 := box_cell hr' 0
            have r1 := box_cell hr' 1
            have r2 := box_free hr' 0
            have r3 := box_free hr' 1
            simp at r0 r1 r2 r3
            go_wp2_with fail
            go_quiet (fail)
            go_wp2_with fail
            have hr3 : Hid ((wf.drewN (q + nq)).heap[w.heap.size]? = _) := hr
            have R1 := st_same hr3 0 (.int .i64 0)
            have R2 := st_same R1 1 (.slice none 0 0)
            have s1 := box_cell R1 0
            have s2 := box_cell R2 1
            simp at s1 s2
            exact bodyPost_ret (v := .tuple #[.agg #[.int .i64 0, .slice none 0 0], .int .i64 0]) (by simp [results, Tryd.results18, go_sem, s1, s2]) rfl (ZERO.out HOK.out _)
        · have hj1 : ¬ ((j : Int) < (k : Int) + 5) := by omega
          have hok : rdOk xs = true := by
            rw [HEQ.out]
            refine decide_eq_true ?_
            have h := hp.out
            have hjk : j = k + 5 := by omega
            rw [hjk, List.take_of_length_le (by rw [HFK.out]; omega)] at h
            exact h
          have HOK := Lib.hid (rd_yes hok); clear hok
          have hr' : Hid ((wf.drewN q).heap[w.heap.size]? = _) := hr
          have hf' : Hid ((wf.drewN q).heap[gf]? = _) := hf
          have r0 := box_cell hr' 0
          have r1 := box_cell hr' 1
          have r2 := box_free hr' 0
          have r3 := box_free hr' 1
          have f0 := box_cell hf' 0
          have f1 := box_cell hf' 1
          simp at r0 r1 f0 f1
          go_wp2_with fail
          have R1 := st_same hr' 0 (.int .i64 z)
          have R2 := st_same R1 1 (.slice B k d)
          have s1 := box_cell R1 0
          have s2 := box_cell R2 1
          simp at s1 s2
          have hpp : RetF xs w (.returned (.tuple #[.agg #[.int .i64 z, .slice B k d], .int .i64 (k + 5)])) (((wf.drewN q).setCell ⟨w.heap.size, 0, none⟩ (.int .i64 z)).setCell ⟨w.heap.size, 1, none⟩ (.slice B k d)) := by
            obtain ⟨e1, e2, e3⟩ := HOK.out
            refine ⟨B, d, ?_, ?_, be_set (be_set (drewNB hbW q) (Nat.le_refl _)) (Nat.le_refl _)⟩
            · rw [e1, e2, e3, HBL.out, HK.out, HZ.out, show ((k + 5 : Nat) : Int) = (k : Int) + 5 by omega]
            · rw [e3, HBL.out]
              exact (own_set (own_set (show Own (wf.drewN q) _ _ _ _ _ _ from hoW) (Nat.lt_succ_self _)) (Nat.lt_succ_self _)).mono (Nat.le_succ _)
          exact bodyPost_ret (v := .tuple #[.agg #[.int .i64 z, .slice B k d], .int .i64 (k + 5)]) (by simp [results, Tryd.results18, go_sem, s1, s2]) rfl hpp
    · have hf := st_same (st_same Bz 0 (.int .i64 z)) 1 (.slice B k d)
      have hr0 := be_box (be_box HR0 (drew1B (Below.refl _ _))) hbq
      have hr := st_box (g' := w0.heap.size) (j := 1) (st_box (g' := w0.heap.size) (j := 0) hr0 (.int .i64 z) (by omega)) (.slice B k d) (by omega)
      have hbW := be_set (g := w0.heap.size) (j := 1) (u := .slice B k d) (be_set (g := w0.heap.size) (j := 0) (u := .int .i64 z) (seqB hb0 hbq) (by omega)) (by omega)
      have hrx := rd_set2 (u := .int .i64 z) (u' := .slice B k d) (j := 0) (j' := 1) (HRX.out.below hbq) (show b ≠ w0.heap.size by omega)
      have hgf : w.heap.size < w0.heap.size := by omega
      have hoq := row_own hrow
      have hnil := row_none hrow
      have hoW := (own_setT (j := 1) (u := .slice B k d) (own_setT (j := 0) (u := .int .i64 z) hoq Bz (by decide)) (st_same Bz 0 (.int .i64 z)) (by decide)).mono (show w.heap.size + 1 ≤ _ by simp; omega)
      clear hoq
      replace hf : Hid (((wq.setCell ⟨w0.heap.size, 0, none⟩ (.int .i64 z)).setCell ⟨w0.heap.size, 1, none⟩ (.slice B k d)).heap[w0.heap.size]? = some (.cells #[.int .i64 z, .slice B k d] 25 (0, 0))) := hf
      generalize (wq.setCell ⟨w0.heap.size, 0, none⟩ (.int .i64 z)).setCell ⟨w0.heap.size, 1, none⟩ (.slice B k d) = W at *
      clear hrow hbq HRX hb0 HRD L1 L2 L3 C1 C2 C3 N2 N3 HLE hsome hk10 h8 Bz y0 y1 y2 y3 hr0
      generalize hge : w0.heap.size = gf at *
      clear hge
      have f0 := box_cell hf 0
      have f1 := box_cell hf 1
      simp at f0 f1
      go_wp2_with fail
      refine (specFB z B k d (rdBody xs) _ HBL.out (by omega) hoW.rd hnil).mono ?_
      rintro e wf ⟨B2, d2, rfl, ho2, hbf⟩
      clear f0 f1
      replace hf := be_box hf hbf
      replace hr := be_box hr hbf
      replace hbW := seqB hbW hbf
      replace hoW := hoW.below hbf
      replace hrx := hrx.below hbf
      clear hbf
      have hFl := frmBytes_len z (rdBody xs)
      have HTL := Lib.hid (show (xs.take (k + 5)).length = k + 5 by simp; have := HN.out; omega)
      have HEQ : Hid (rdOk xs = decide (frmBytes z (rdBody xs) = xs.take (k + 5))) := by rw [Hid, HR.out, HZ.out, HK.out]
      generalize frmBytes z (rdBody xs) = FB at *
      have HRXX := Lib.hid hrx; clear hrx
      have HO2 := Lib.hid ho2.rd; clear ho2
      have ZERO : Hid (rdOk xs = false → ∀ q : Nat, RetF xs w (.returned (.tuple #[.agg #[.int .i64 0, .slice none 0 0], .int .i64 0])) (((wf.drewN q).setCell ⟨w.heap.size, 0, none⟩ (.int .i64 0)).setCell ⟨w.heap.size, 1, none⟩ (.slice none 0 0))) := fun h q => retF_no h (be_set (be_set (drewNB hbW q) (Nat.le_refl _)) (Nat.le_refl _))
      by_cases hFk : FB.length = k + 5
      case neg =>
        have hnz : ((FB.length : Int) != (k : Int) + 5) = true := by simp; omega
        have HOK : Hid (rdOk xs = false) := by rw [Hid, HEQ.out]; exact decide_eq_false (fun e => hFk (by rw [e, HTL.out]))
        have r0 := box_cell hr 0
        have r1 := box_cell hr 1
        have r2 := box_free hr 0
        have r3 := box_free hr 1
        simp at r0 r1
        go_wp2_with fail
        have R1 := st_same hr 0 (.int .i64 0)
        have R2 := st_same R1 1 (.slice none 0 0)
        have s1 := box_cell R1 0
        have s2 := box_cell R2 1
        simp at s1 s2
        exact bodyPost_ret (v := .tuple #[.agg #[.int .i64 0, .slice none 0 0], .int .i64 0]) (by simp [results, Tryd.results18, go_sem, s1, s2]) rfl (ZERO.out HOK.out 0)
      have hnz : ((FB.length : Int) != (k : Int) + 5) = false := by simp; omega
      have HFK := Lib.hid hFk; clear hFk
      go_wp2_with fail
      go_loopw [7] (fun i wr => ∃ j : Nat, j ≤ k + 5 ∧ i = .int .i64 j ∧ Hid (FB.take j = xs.take j) ∧ ∃ q, wr = wf.drewN q) (fun i _ => k + 5 - (intOf i).toNat)
      case atStart => exact ⟨0, by omega, rfl, by simp [Hid], 0, rfl⟩
      case round =>
        obtain ⟨j, hj, rfl, hp, q, rfl⟩ := hrel
        by_cases hjl : j < k + 5
        · have hj1 : (j : Int) < (k : Int) + 5 := by omega
          obtain ⟨b2, o2, rfl, _, hq1⟩ := HO2.out.int (k := j) (by rw [HFK.out]; omega)
          obtain ⟨b3, o3, e3, _, hq2⟩ := HRXX.out.int (k := j) (by rw [HN.out]; omega)
          cases e3
          have hjn : (j : Int) < (n : Int) := by omega
          have hjf : (j : Int) < (FB.length : Int) := by have := HFK.out; omega
          have T1 := Lib.hid (show FB.take (j + 1) = FB.take j ++ [FB.getD j 0] by rw [List.take_succ_eq_append_getElem (by rw [HFK.out]; omega)]; simp [show j < FB.length by have := HFK.out; omega])
          have T2 := Lib.hid (show xs.take (j + 1) = xs.take j ++ [xs.getD j 0] by rw [List.take_succ_eq_append_getElem (by rw [HN.out]; omega)]; simp [show j < xs.length by have := HN.out; omega])
          generalize hx : FB.getD j 0 = x at *
          generalize hy : xs.getD j 0 = y at *
          have HX := Lib.hid hx; have HY2 := Lib.hid hy; clear hx hy
          cases hxy : (x != y) with
          | false =>
            have hE := Lib.hid (show x = y by simpa using hxy)
            go_wp2_with fail
            go_quiet (fail)
            go_wp2_with fail
            go_roundw
            case rel => exact ⟨j + 1, by omega, by go_num, by rw [Hid, T1.out, T2.out, hp.out, hE.out], _, rfl⟩
            case measure => simp [intOf]; omega
          | true =>
            have HOK : Hid (rdOk xs = false) := by
              rw [Hid, HEQ.out]
              refine decide_eq_false (fun e => ?_)
              have h2 : FB.getD j 0 = xs.getD j 0 := by rw [e, List.getD_eq_getElem?_getD, List.getElem?_take, if_pos hjl, ← List.getD_eq_getElem?_getD]
              rw [HX.out, HY2.out] at h2
              rw [h2] at hxy
              simp at hxy
            have hr' : Hid ((wf.drewN q).heap[w.heap.size]? = _) := hr
            have r0 := box_cell hr' 0
            have r1 := box_cell hr' 1
            have r2 := box_free hr' 0
            have r3 := box_free hr' 1
            simp at r0 r1 r2 r3
            go_wp2_with fail
            go_quiet (fail)
            go_wp2_with fail
            have hr3 : Hid ((wf.drewN (q + nq)).heap[w.heap.size]? = _) := hr
            have R1 := st_same hr3 0 (.int .i64 0)
            have R2 := st_same R1 1 (.slice none 0 0)
            have s1 := box_cell R1 0
            have s2 := box_cell R2 1
            simp at s1 s2
            exact bodyPost_ret (v := .tuple #[.agg #[.int .i64 0, .slice none 0 0], .int .i64 0]) (by simp [results, Tryd.results18, go_sem, s1, s2]) rfl (ZERO.out HOK.out _)
        · have hj1 : ¬ ((j : Int) < (k : Int) + 5) := by omega
          have hok : rdOk xs = true := by
            rw [HEQ.out]
            refine decide_eq_true ?_
            have h := hp.out
            have hjk : j = k + 5 := by omega
            rw [hjk, List.take_of_length_le (by rw [HFK.out]; omega)] at h
            exact h
          have HOK := Lib.hid (rd_yes hok); clear hok
          have hr' : Hid ((wf.drewN q).heap[w.heap.size]? = _) := hr
          have hf' : Hid ((wf.drewN q).heap[gf]? = _) := hf
          have r0 := box_cell hr' 0
          have r1 := box_cell hr' 1
          have r2 := box_free hr' 0
          have r3 := box_free hr' 1
          have f0 := box_cell hf' 0
          have f1 := box_cell hf' 1
          simp at r0 r1 f0 f1
          go_wp2_with fail
          have R1 := st_same hr' 0 (.int .i64 z)
          have R2 := st_same R1 1 (.slice B k d)
          have s1 := box_cell R1 0
          have s2 := box_cell R2 1
          simp at s1 s2
          have hpp : RetF xs w (.returned (.tuple #[.agg #[.int .i64 z, .slice B k d], .int .i64 (k + 5)])) (((wf.drewN q).setCell ⟨w.heap.size, 0, none⟩ (.int .i64 z)).setCell ⟨w.heap.size, 1, none⟩ (.slice B k d)) := by
            obtain ⟨e1, e2, e3⟩ := HOK.out
            refine ⟨B, d, ?_, ?_, be_set (be_set (drewNB hbW q) (Nat.le_refl _)) (Nat.le_refl _)⟩
            · rw [e1, e2, e3, HBL.out, HK.out, HZ.out, show ((k + 5 : Nat) : Int) = (k : Int) + 5 by omega]
            · rw [e3, HBL.out]
              exact (own_set (own_set (show Own (wf.drewN q) _ _ _ _ _ _ from hoW) (Nat.lt_succ_self _)) (Nat.lt_succ_self _)).mono (Nat.le_succ _)
          exact bodyPost_ret (v := .tuple #[.agg #[.int .i64 z, .slice B k d], .int .i64 (k + 5)]) (by simp [results, Tryd.results18, go_sem, s1, s2]) rfl hpp
end Go.Proofs.YtddiloillgbneaaDoor
