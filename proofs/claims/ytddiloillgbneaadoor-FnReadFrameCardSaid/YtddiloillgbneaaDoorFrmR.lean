/- Contracts of ReadFrame, of the reference and of the program, and of slices.Clone and slices.Equal at ints. No statement is proved here. -/
import Derived.Test.YtddiloillgbneaaDoorFrmE
import Derived.Test.YtddiloillgbneaaDoorAppS
namespace Go.Proofs.YtddiloillgbneaaDoor
open Go.RowKit

set_option maxHeartbeats 1000000 in
theorem cloneI (ad : Addr) (n c : Nat) (l : List Int) (w : World) (hn : l.length = n) (hm : n ≤ 1048576) (hA : Rd w (some ad) (ints l)) :
    Calls Tryd.prog 30 #[.slice (some ad) n c] w (RetS 3 1 (ints l) n w) := by
  subst hn
  have HA := Lib.hid hA; clear hA
  obtain ⟨i0, hi0, hz0, hz1, hz2⟩ := info_parts info_int
  have HI := Lib.hid (And.intro hi0 (And.intro hz0 (And.intro hz1 hz2))); clear hi0 hz0 hz1 hz2
  have hlit : (w.alloc (.cells #[] 3)).ownsRow w.heap.size 3 1 (.slice (some ⟨w.heap.size, 0, none⟩) 0 0) 0 [] := World.ownsRow_lit w #[] 0 (Nat.le_refl _) (Nat.zero_le _) rfl
  have hrd : Rd (w.alloc (.cells #[] 3)) (some ad) (ints l) := HA.out.below (allocB (Below.refl _ _) _)
  have hb : Below w.heap.size w (w.alloc (.cells #[] 3)) := allocB (Below.refl _ _) _
  have q22 : ∀ (w : World) (a : Option Addr) (n c n' c' : Nat), (binOp .eql 23 (.slice a n c) (.slice none n' c')).run Tryd.prog w = .ok (.bool a.isNone) w := fun w a n c n' c' => Lib.run_eql_slice_nil w _ _ a n c n' c' Tryd.underlying23
  go_enter Tryd.func30, Tryd.ntmps30
  go_wp2_with (at_builtin; refine wpList_appN _ rfl _ _ _ rfl w.heap.size 3 i0 _ 1 8 Tryd.underlying23 HI.out rfl (by omega) _ 0 _ rfl hlit (some ad) l.length c (ints l) rfl (by rw [ints_length]; omega) hrd (fun e => by cases e) (ints_one _) (by omega) (by omega) hb.size ?_; intro v1 w1 hown1 hg1)
  obtain ⟨B2, d2, rfl, hr2⟩ := row_is (n' := l.length) (cs' := ints l) hown1 (by simp) (by simp)
  go_ret
  exact ⟨B2, d2, rfl, row_own hr2, grown_row hb rfl hlit hg1⟩
set_option maxHeartbeats 1000000 in
theorem equalI (A B : Option Addr) (n m c d : Nat) (xs ys : List Int) (w : World) (hn : xs.length = n) (hn' : ys.length = m) (hm : n ≤ 1048576) (hm' : m ≤ 1048576) (hA : Rd w A (ints xs)) (hB : Rd w B (ints ys)) :
    Calls Tryd.prog 31 #[.slice A n c, .slice B m d] w fun e w' => e = .returned (.bool (decide (xs = ys))) ∧ ∃ q, w' = w.drewN q := by
  have HA := Lib.hid hA; clear hA
  have HB := Lib.hid hB; clear hB
  have HN := Lib.hid hn; clear hn
  have HM := Lib.hid hn'; clear hn'
  by_cases hnm : n = m
  case neg =>
    have hne : ((n : Int) != (m : Int)) = true := by simp; omega
    have HE : Hid (decide (xs = ys) = false) := by
      rw [Hid]; exact decide_eq_false (fun e => hnm (by rw [← HN.out, ← HM.out, e]))
    go_enter Tryd.func31, Tryd.ntmps31
    go_wp2_with fail
    go_ret
    exact ⟨ret_bool HE.out.symm, 0, rfl⟩
  subst hnm
  have hne : ((n : Int) != (n : Int)) = false := by simp
  go_enter Tryd.func31, Tryd.ntmps31
  go_wp2_with fail
  go_loopw [13] (fun i wr => ∃ k : Nat, k ≤ n ∧ i = .int .i64 k ∧ Hid (xs.take k = ys.take k) ∧ ∃ q, wr = w.drewN q) (fun i _ => n - (intOf i).toNat)
  case atStart => exact ⟨0, by omega, rfl, by simp [Hid], 0, rfl⟩
  case round =>
    obtain ⟨k, hk, rfl, hp, q, rfl⟩ := hrel
    by_cases hlt : k < n
    · obtain ⟨b, o, rfl, _, hc1⟩ := HA.out.int (k := k) (by have := HN.out; omega)
      obtain ⟨b2, o2, rfl, _, hc2⟩ := HB.out.int (k := k) (by have := HM.out; omega)
      have T1 := Lib.hid (show xs.take (k + 1) = xs.take k ++ [xs.getD k 0] by rw [List.take_succ_eq_append_getElem (by have := HN.out; omega)]; simp [show k < xs.length by have := HN.out; omega])
      have T2 := Lib.hid (show ys.take (k + 1) = ys.take k ++ [ys.getD k 0] by rw [List.take_succ_eq_append_getElem (by have := HM.out; omega)]; simp [show k < ys.length by have := HM.out; omega])
      generalize hx : xs.getD k 0 = x at *
      generalize hy : ys.getD k 0 = y at *
      have HX := Lib.hid hx; have HY := Lib.hid hy; clear hx hy
      cases hxy : (x != y) with
      | false =>
        have hE := Lib.hid (show x = y by simpa using hxy)
        go_wp2_with fail
        go_quiet (fail)
        go_wp2_with fail
        go_roundw
        case rel => exact ⟨k + 1, by omega, by go_num, by rw [Hid, T1.out, T2.out, hp.out, hE.out], _, rfl⟩
        case measure => simp [intOf]; omega
      | true =>
        go_wp2_with fail
        go_quiet (fail)
        go_wp2_with fail
        go_ret
        refine ⟨ret_bool (decide_eq_false (fun e => ?_)).symm, _, World.drewN_drewN _ _ _⟩
        rw [e, HY.out] at HX
        rw [HX.out] at hxy
        simp at hxy
    · go_wp2_with fail
      go_ret
      refine ⟨ret_bool (decide_eq_true ?_).symm, q, rfl⟩
      have h := hp.out
      rwa [List.take_of_length_le (by have := HN.out; omega), List.take_of_length_le (by have := HM.out; omega)] at h
/-- what reading a frame returns -/
def RetF (xs : List Int) (w : World) (e : Ending) (w' : World) : Prop :=
  ∃ B d, e = .returned (.tuple #[.agg #[.int .i64 (rdA xs), .slice B (rdB xs).length d], .int .i64 (rdN xs)]) ∧ Own w' w.heap.size 3 1 B (rdB xs).length (ints (rdB xs)) ∧ Below w.heap.size w w'
theorem retF_no {xs : List Int} {w w' : World} (h : rdOk xs = false) (hb : Below w.heap.size w w') : RetF xs w (.returned (.tuple #[.agg #[.int .i64 0, .slice none 0 0], .int .i64 0])) w' := by
  obtain ⟨e1, e2, e3⟩ := rd_no h
  refine ⟨none, 0, ?_, ?_, hb⟩
  · rw [e1, e2, e3]; rfl
  · rw [e3]; exact Own.nil
theorem rdBody_rd {w : World} {b o k : Nat} {xs : List Int} (hk : rdCnt xs = k) (h : Rd w (some ⟨b, o, none⟩) (ints xs)) : Rd w (some ⟨b, o + 3, none⟩) (ints (rdBody xs)) := by
  have e : ints (rdBody xs) = ((ints xs).drop 3).take k := by rw [rdBody, hk]; simp [ints, List.map_take, List.map_drop]
  rw [e]
  exact rdFirst (rdPart h)
theorem rdTakeI {w : World} {A : Option Addr} {h : Nat} {xs : List Int} (hr : Rd w A (ints xs)) : Rd w A (ints (xs.take h)) := by
  have e : ints (xs.take h) = (ints xs).take h := by simp [ints, List.map_take]
  rw [e]; exact rdFirst hr
theorem set2_far {w : World} {b g o j j' : Nat} {u u' v : Value} (h : w.cell? ⟨b, o, none⟩ = some v) (hne : b ≠ g) : ((w.setCell ⟨g, j, none⟩ u).setCell ⟨g, j', none⟩ u').cell? ⟨b, o, none⟩ = some v := by
  have e : ∀ (W : World) (i : Nat) (u : Value), (W.setCell ⟨g, i, none⟩ u).cell? ⟨b, o, none⟩ = W.cell? ⟨b, o, none⟩ := fun W i u => World.cell?_setCell_other W ⟨g, i, none⟩ ⟨b, o, none⟩ u (by intro e; exact hne (congrArg Addr.block e).symm)
  rw [e, e]; exact h
theorem rd_set2 {w : World} {b g o j j' : Nat} {u u' : Value} {cs : List Value} (h : Rd w (some ⟨b, o, none⟩) cs) (hne : b ≠ g) : Rd ((w.setCell ⟨g, j, none⟩ u).setCell ⟨g, j', none⟩ u') (some ⟨b, o, none⟩) cs := by
  intro h0
  obtain ⟨b', o', e, hl, hc⟩ := h h0
  cases e
  exact ⟨b, o, rfl, by simpa [World.setCell] using hl, fun k v hv => set2_far (hc k v hv) hne⟩
set_option maxHeartbeats 600000 in
theorem implRF (A : Option Addr) (n c : Nat) (xs : List Int) (w : World) (hn : xs.length = n) (hm : n ≤ 1048576) (hcap : n ≤ c) (hA : Rd w A (ints xs)) :
    Calls Tryd.prog 15 #[.slice A n c] w (RetF xs w) := by
  have HA := Lib.hid hA; clear hA
  have HN := Lib.hid hn; clear hn
  have hb0 : Below w.heap.size w (w.alloc (.cells #[.int .i64 0, .slice none 0 0] 25)) := allocB (Below.refl _ _) _
  by_cases h5 : 5 ≤ n
  case neg =>
    have HR := Lib.hid (rd_short (xs := xs) (by rw [HN.out]; omega))
    go_enter Tryd.func15, Tryd.ntmps15
    go_wp2_with fail
    exact bodyPost_ret (v := .tuple #[.agg #[.int .i64 0, .slice none 0 0], .int .i64 0]) (by simp [results, Tryd.results15, go_sem]) rfl (retF_no HR.out hb0)
  obtain ⟨b, o, rfl, hbl, hcc⟩ := HA.out.ints (by rw [HN.out]; omega)
  have hc1 := hcc 1 (by rw [HN.out]; omega)
  have hc2 := hcc 2 (by rw [HN.out]; omega)
  clear hcc
  generalize hy : xs.getD 1 0 = y at *
  generalize hz : xs.getD 2 0 = z at *
  have HY := Lib.hid hy; have HZ := Lib.hid hz; clear hy hz
  by_cases hy0 : 0 ≤ y
  case neg =>
    have HR := Lib.hid (rd_cnt (xs := xs) (by rw [HY.out, inB_not]; omega))
    have hlt : y < 0 := by omega
    go_enter Tryd.func15, Tryd.ntmps15
    go_wp2_with fail
    exact bodyPost_ret (v := .tuple #[.agg #[.int .i64 0, .slice none 0 0], .int .i64 0]) (by simp [results, Tryd.results15, go_sem]) rfl (retF_no HR.out hb0)
  by_cases hy1 : y ≤ 12
  case neg =>
    have HR := Lib.hid (rd_cnt (xs := xs) (by rw [HY.out, inB_not]; omega))
    have hlt : 12 < y := by omega
    go_enter Tryd.func15, Tryd.ntmps15
    go_wp2_with fail
    exact bodyPost_ret (v := .tuple #[.agg #[.int .i64 0, .slice none 0 0], .int .i64 0]) (by simp [results, Tryd.results15, go_sem]) rfl (retF_no HR.out hb0)
  obtain ⟨k, rfl⟩ : ∃ k : Nat, y = k := ⟨y.toNat, by omega⟩
  have HK : Hid (rdCnt xs = k) := by rw [Hid, rdCnt, HY.out]; simp
  by_cases hl : 5 + k ≤ n
  case neg =>
    have HR := Lib.hid (rd_len (xs := xs) (by rw [HK.out, HN.out]; omega))
    have hlt : (n : Int) < 5 + (k : Int) := by omega
    go_enter Tryd.func15, Tryd.ntmps15
    go_wp2_with fail
    exact bodyPost_ret (v := .tuple #[.agg #[.int .i64 0, .slice none 0 0], .int .i64 0]) (by simp [results, Tryd.results15, go_sem]) rfl (retF_no HR.out hb0)
  have HR := Lib.hid (rd_eq (xs := xs) (by rw [HN.out]; exact h5) (by rw [HY.out, inB_iff]; omega) (by rw [HK.out, HN.out]; omega))
  have hlt : ¬ ((n : Int) < 5 + (k : Int)) := by omega
  go_enter Tryd.func15, Tryd.ntmps15
  go_wp2_with fail
  have hd2 := keepC hc2 hb0
  have hw2 : IntKind.i64.wrap (5 + (k : Int) - 2) = 3 + (k : Int) := by rw [show 5 + (k : Int) - 2 = 3 + (k : Int) by omega]; exact IntWalk.i64_in _ (by omega)
  have hx1 : (2 : Int) < (n : Int) := by omega
  have hx2 : 0 ≤ 3 + (k : Int) ∧ 3 + (k : Int) ≤ (c : Int) := by omega
  have hx3 : 3 ≤ max (3 + (k : Int)) 0 := by omega
  have hx4 : ¬ c = 3 := by omega
  have hx5 : (3 + (k : Int)).toNat - 3 = k := by omega
  have HBL := Lib.hid (show (rdBody xs).length = k by rw [rdBody_len (by rw [HK.out, HN.out]; omega), HK.out])
  have hb00 := hb0
  have HR0 : Hid ((w.alloc (.cells #[.int .i64 0, .slice none 0 0] 25)).heap[w.heap.size]? = some (.cells #[.int .i64 0, .slice none 0 0] 25 (0, 0))) := heap_alloc_new w _
  have hsz0 : w.heap.size < (w.alloc (.cells #[.int .i64 0, .slice none 0 0] 25)).heap.size := by simp
  replace hb0 := drew1B hb0
  have hrdx := HA.out.below hb0
  have HRD := Lib.hid (rdBody_rd (k := k) HK.out hrdx)
  have HRX := Lib.hid (rdTakeI (h := k + 5) hrdx)
  clear hrdx
  generalize w.alloc (.cells #[.int .i64 0, .slice none 0 0] 25) = w0 at *
  have hd2d : w0.drew.cell? ⟨b, o + 2, none⟩ = some (.int .i64 z) := hd2
  have hbz : b < w0.heap.size := World.block_lt_of_cell? _ _ hd2
  go_region_held3 (fun W => W.cell? ⟨b, o + 2, none⟩ = some (.int .i64 z)) (first | go_keep | exact keepC (by assumption) hbq | exact keepC hd2d (allocB hbq _) | exact set2_far (keepC (keepC hd2d (allocB (Below.refl _ _) _)) hbq) (by omega)) (first | (go_at_call 30; refine (cloneI ⟨b, o + 3, none⟩ k (c - 3) (rdBody xs) _ HBL.out (by omega) (by first | exact HRD.out | exact HRD.out.below (allocB (Below.refl _ _) _))).mono ?_; rintro e wq ⟨B, d, rfl, hoq, hbq⟩; (try (have Bz := be_box (new_box w0.drew (.cells #[.int .i64 0, .slice none 0 0] 25)) hbq; have y0 := box_cell Bz 0; have y1 := box_cell Bz 1; have y2 := box_free Bz 0; have y3 := box_free Bz 1; simp at y0 y1 y2 y3))))
  all_goals (go_wp2_with fail)
  · have hf := new_box wq (.cells #[.int .i64 z, .slice B k d] 25)
    have hr := be_box (be_box (be_box HR0 (drew1B (Below.refl _ _))) hbq) (allocB (Below.refl _ _) (.cells #[.int .i64 z, .slice B k d] 25))
    have hbW := allocB (seqB hb0 hbq) (.cells #[.int .i64 z, .slice B k d] 25)
    have hoW := (hoq.below (allocB (Below.refl _ _) (.cells #[.int .i64 z, .slice B k d] 25))).mono (show w.heap.size + 1 ≤ _ by simp; omega)
    have hrx := (HRX.out.below hbq).below (allocB (Below.refl _ _) (.cells #[.int .i64 z, .slice B k d] 25))
    have hgf : w.heap.size < wq.heap.size := by have := hbq.size; simp at this; omega
    generalize wq.alloc (.cells #[.int .i64 z, .slice B k d] 25) = W at *
    generalize wq.heap.size = gf at *
    clear hoq hbq HRX hb0 HRD
    have f0 := box_cell hf 0
    have f1 := box_cell hf 1
    simp at f0 f1
    replace hr : Hid (W.drew.heap[_]? = _) := hr
    replace hf : Hid (W.drew.heap[_]? = _) := hf
    replace hbW := drew1B hbW
    replace hoW : Own W.drew _ _ _ _ _ _ := hoW
    replace hrx : Rd W.drew _ _ := hrx
    have HRX := Lib.hid hrx; clear hrx
    have hx6 : (5 + (k : Int)).toNat = k + 5 := by omega
    have hx7 : 0 ≤ 5 + (k : Int) ∧ 5 + (k : Int) ≤ (c : Int) := by omega
    have hFl := frmBytes_len z (rdBody xs)
    have HTL := Lib.hid (show (xs.take (k + 5)).length = k + 5 by simp; have := HN.out; omega)
    have HFB := Lib.hid (implFB z B k d (rdBody xs) W.drew HBL.out (by omega) hoW.rd)
    generalize hFB : frmBytes z (rdBody xs) = FB at *
    have HFE := Lib.hid hFB; clear hFB
    go_region_held3 (fun W' => W'.cell? ⟨gf, 0, none⟩ = some (.int .i64 z) ∧ W'.cell? ⟨gf, 1, none⟩ = some (.slice B k d)) (first | go_keep | (go_split_ands; refine ⟨?_, ?_⟩ <;> go_keep) | (go_split_ands; refine ⟨?_, ?_⟩ <;> exact keepC (by assumption) hbf)) (first | (go_at_call 12; refine (HFB.out).mono ?_; rintro e wf ⟨B2, d2, rfl, ho2, hbf⟩) | (go_at_call 31; refine (equalI B2 (some ⟨b, o, none⟩) FB.length (k + 5) d2 c FB (xs.take (k + 5)) _ rfl HTL.out (by omega) (by omega) ho2.rd (HRX.out.below hbf)).mono ?_; rintro e we ⟨rfl, q, rfl⟩))
    clear f0 f1
    replace hf := be_box hf hbf
    replace hr := be_box hr hbf
    replace hbW := seqB hbW hbf
    replace hoW := hoW.below hbf
    clear hbf ho2 HRX HFB
    replace hr : Hid ((wf.drewN q).heap[_]? = _) := hr
    replace hf : Hid ((wf.drewN q).heap[_]? = _) := hf
    have f0 := box_cell hf 0
    have f1 := box_cell hf 1
    have r0 := box_cell hr 0
    have r1 := box_cell hr 1
    have r2 := box_free hr 0
    have r3 := box_free hr 1
    simp at f0 f1 r0 r1
    have HEQ : Hid (rdOk xs = decide (FB = xs.take (k + 5))) := by rw [Hid, HR.out, HZ.out, HK.out, HFE.out]
    cases hd : decide (FB = xs.take (k + 5)) with
    | true =>
      have hok : rdOk xs = true := by rw [HEQ.out, hd]
      have HOK := Lib.hid (rd_yes hok); clear hok
      go_wp2_with fail
      have R1 := st_same hr 0 (.int .i64 z)
      have R2 := st_same R1 1 (.slice B k d)
      have s1 := box_cell R1 0
      have s2 := box_cell R2 1
      simp at s1 s2
      have hp : RetF xs w (.returned (.tuple #[.agg #[.int .i64 z, .slice B k d], .int .i64 (5 + k)])) (((wf.drewN q).setCell ⟨w.heap.size, 0, none⟩ (.int .i64 z)).setCell ⟨w.heap.size, 1, none⟩ (.slice B k d)) := by
        obtain ⟨e1, e2, e3⟩ := HOK.out
        refine ⟨B, d, ?_, ?_, be_set (be_set (drewNB hbW q) (Nat.le_refl _)) (Nat.le_refl _)⟩
        · rw [e1, e2, e3, HBL.out, HK.out, HZ.out, show ((k + 5 : Nat) : Int) = 5 + (k : Int) by omega]
        · rw [e3, HBL.out]
          exact (own_set (own_set (show Own (wf.drewN q) _ _ _ _ _ _ from hoW) (Nat.lt_succ_self _)) (Nat.lt_succ_self _)).mono (Nat.le_succ _)
      exact bodyPost_ret (v := .tuple #[.agg #[.int .i64 z, .slice B k d], .int .i64 (5 + k)]) (by simp [results, Tryd.results15, go_sem, s1, s2]) rfl hp
    | false =>
      have hok : rdOk xs = false := by rw [HEQ.out, hd]
      have HOK := Lib.hid hok; clear hok
      go_wp2_with fail
      have R1 := st_same hr 0 (.int .i64 0)
      have R2 := st_same R1 1 (.slice none 0 0)
      have s1 := box_cell R1 0
      have s2 := box_cell R2 1
      simp at s1 s2
      exact bodyPost_ret (v := .tuple #[.agg #[.int .i64 0, .slice none 0 0], .int .i64 0]) (by simp [results, Tryd.results15, go_sem, s1, s2]) rfl (retF_no HOK.out (be_set (be_set (drewNB hbW q) (Nat.le_refl _)) (Nat.le_refl _)))
  · have hf := st_same (st_same Bz 0 (.int .i64 z)) 1 (.slice B k d)
    have hr0 := be_box (be_box HR0 (drew1B (allocB (Below.refl _ _) (.cells #[.int .i64 0, .slice none 0 0] 25)))) hbq
    have hr := st_box (g' := w0.heap.size) (j := 1) (st_box (g' := w0.heap.size) (j := 0) hr0 (.int .i64 z) (by omega)) (.slice B k d) (by omega)
    have hbW := be_set (g := w0.heap.size) (j := 1) (u := .slice B k d) (be_set (g := w0.heap.size) (j := 0) (u := .int .i64 z) (seqB (drew1B (allocB hb00 (.cells #[.int .i64 0, .slice none 0 0] 25))) hbq) (by omega)) (by omega)
    have hoW := (own_set (g := w0.heap.size) (j := 1) (u := .slice B k d) (own_set (g := w0.heap.size) (j := 0) (u := .int .i64 z) hoq (by simp)) (by simp)).mono (show w.heap.size + 1 ≤ _ by simp; omega)
    have hrx := rd_set2 (u := .int .i64 z) (u' := .slice B k d) (j := 0) (j' := 1) (((HRX.out.below (allocB (Below.refl _ _) (.cells #[.int .i64 0, .slice none 0 0] 25)))).below hbq) (show b ≠ w0.heap.size by omega)
    have hgf : w.heap.size < w0.heap.size := by omega
    replace hf : Hid (((wq.setCell ⟨w0.heap.size, 0, none⟩ (.int .i64 z)).setCell ⟨w0.heap.size, 1, none⟩ (.slice B k d)).heap[w0.heap.size]? = some (.cells #[.int .i64 z, .slice B k d] 25 (0, 0))) := hf
    generalize (wq.setCell ⟨w0.heap.size, 0, none⟩ (.int .i64 z)).setCell ⟨w0.heap.size, 1, none⟩ (.slice B k d) = W at *
    clear hoq hbq HRX hb0 HRD Bz y0 y1 y2 y3 hr0
    generalize hge : w0.heap.size = gf at *
    clear hge
    have f0 := box_cell hf 0
    have f1 := box_cell hf 1
    simp at f0 f1
    replace hr : Hid (W.drew.heap[_]? = _) := hr
    replace hf : Hid (W.drew.heap[_]? = _) := hf
    replace hbW := drew1B hbW
    replace hoW : Own W.drew _ _ _ _ _ _ := hoW
    replace hrx : Rd W.drew _ _ := hrx
    have HRX := Lib.hid hrx; clear hrx
    have hx6 : (5 + (k : Int)).toNat = k + 5 := by omega
    have hx7 : 0 ≤ 5 + (k : Int) ∧ 5 + (k : Int) ≤ (c : Int) := by omega
    have hFl := frmBytes_len z (rdBody xs)
    have HTL := Lib.hid (show (xs.take (k + 5)).length = k + 5 by simp; have := HN.out; omega)
    have HFB := Lib.hid (implFB z B k d (rdBody xs) W.drew HBL.out (by omega) hoW.rd)
    generalize hFB : frmBytes z (rdBody xs) = FB at *
    have HFE := Lib.hid hFB; clear hFB
    go_region_held3 (fun W' => W'.cell? ⟨gf, 0, none⟩ = some (.int .i64 z) ∧ W'.cell? ⟨gf, 1, none⟩ = some (.slice B k d)) (first | go_keep | (go_split_ands; refine ⟨?_, ?_⟩ <;> go_keep) | (go_split_ands; refine ⟨?_, ?_⟩ <;> exact keepC (by assumption) hbf)) (first | (go_at_call 12; refine (HFB.out).mono ?_; rintro e wf ⟨B2, d2, rfl, ho2, hbf⟩) | (go_at_call 31; refine (equalI B2 (some ⟨b, o, none⟩) FB.length (k + 5) d2 c FB (xs.take (k + 5)) _ rfl HTL.out (by omega) (by omega) ho2.rd (HRX.out.below hbf)).mono ?_; rintro e we ⟨rfl, q, rfl⟩))
    clear f0 f1
    replace hf := be_box hf hbf
    replace hr := be_box hr hbf
    replace hbW := seqB hbW hbf
    replace hoW := hoW.below hbf
    clear hbf ho2 HRX HFB
    replace hr : Hid ((wf.drewN q).heap[_]? = _) := hr
    replace hf : Hid ((wf.drewN q).heap[_]? = _) := hf
    have f0 := box_cell hf 0
    have f1 := box_cell hf 1
    have r0 := box_cell hr 0
    have r1 := box_cell hr 1
    have r2 := box_free hr 0
    have r3 := box_free hr 1
    simp at f0 f1 r0 r1
    have HEQ : Hid (rdOk xs = decide (FB = xs.take (k + 5))) := by rw [Hid, HR.out, HZ.out, HK.out, HFE.out]
    cases hd : decide (FB = xs.take (k + 5)) with
    | true =>
      have hok : rdOk xs = true := by rw [HEQ.out, hd]
      have HOK := Lib.hid (rd_yes hok); clear hok
      go_wp2_with fail
      have R1 := st_same hr 0 (.int .i64 z)
      have R2 := st_same R1 1 (.slice B k d)
      have s1 := box_cell R1 0
      have s2 := box_cell R2 1
      simp at s1 s2
      have hp : RetF xs w (.returned (.tuple #[.agg #[.int .i64 z, .slice B k d], .int .i64 (5 + k)])) (((wf.drewN q).setCell ⟨w.heap.size, 0, none⟩ (.int .i64 z)).setCell ⟨w.heap.size, 1, none⟩ (.slice B k d)) := by
        obtain ⟨e1, e2, e3⟩ := HOK.out
        refine ⟨B, d, ?_, ?_, be_set (be_set (drewNB hbW q) (Nat.le_refl _)) (Nat.le_refl _)⟩
        · rw [e1, e2, e3, HBL.out, HK.out, HZ.out, show ((k + 5 : Nat) : Int) = 5 + (k : Int) by omega]
        · rw [e3, HBL.out]
          exact (own_set (own_set (show Own (wf.drewN q) _ _ _ _ _ _ from hoW) (Nat.lt_succ_self _)) (Nat.lt_succ_self _)).mono (Nat.le_succ _)
      exact bodyPost_ret (v := .tuple #[.agg #[.int .i64 z, .slice B k d], .int .i64 (5 + k)]) (by simp [results, Tryd.results15, go_sem, s1, s2]) rfl hp
    | false =>
      have hok : rdOk xs = false := by rw [HEQ.out, hd]
      have HOK := Lib.hid hok; clear hok
      go_wp2_with fail
      have R1 := st_same hr 0 (.int .i64 0)
      have R2 := st_same R1 1 (.slice none 0 0)
      have s1 := box_cell R1 0
      have s2 := box_cell R2 1
      simp at s1 s2
      exact bodyPost_ret (v := .tuple #[.agg #[.int .i64 0, .slice none 0 0], .int .i64 0]) (by simp [results, Tryd.results15, go_sem, s1, s2]) rfl (retF_no HOK.out (be_set (be_set (drewNB hbW q) (Nat.le_refl _)) (Nat.le_refl _)))
end Go.Proofs.YtddiloillgbneaaDoor
