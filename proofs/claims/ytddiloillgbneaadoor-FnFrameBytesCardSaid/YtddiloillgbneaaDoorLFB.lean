/- The walk of FnFrameBytes: it returns true, and writes nothing that was there. -/
import Derived.Test.YtddiloillgbneaaDoorDrV
import Derived.Test.YtddiloillgbneaaDoorSmF
namespace Go.Proofs.YtddiloillgbneaaDoor.lFB
open Go.RowKit Go.Proofs.YtddiloillgbneaaDoor

theorem frmOut_byte {a : Int} {l : List Int} (h : frmB a l = true) : byteL (frmOut a l) = true := by
  have h1 := (frmB_iff a l).1 h
  have h2 := h1.2.2
  simp only [byteL, frmOut, List.all_cons, List.all_append, Bool.and_eq_true, inB_iff, List.all_nil, and_true] at h2 ⊢
  refine ⟨by omega, by omega, h1.1, h2, ?_, by omega⟩
  simp only [frmSum]; omega
theorem ints_at (xs : List Int) (k : Nat) (x : Int) (h : xs.getD k 0 = x) (hk : k < xs.length) : (ints xs)[k]? = some (.int .i64 x) := by
  subst h; simp [ints, hk]

set_option maxRecDepth 100000 in
set_option maxHeartbeats 4000000 in
theorem walk (w : World) (A : Option Addr) (m c : Nat) (hc : m ≤ c) (hm : m ≤ maxLen) (hA : RdB w A m) :
    Calls Tryd.prog 4 #[.slice A m c] w fun e w' => e = .returned (.bool true) ∧ Below w.heap.size w w' := by
  unfold maxLen at hm
  by_cases hs : m ≤ 1048576
  case neg =>
    go_enter Tryd.func4, Tryd.ntmps4
    go_wp2_with fail
    go_ret
    exact ⟨rfl, Below.refl _ _⟩
  have HA := Lib.hid hA; clear hA
  have hb : Below w.heap.size w w := Below.refl _ _
  go_enter Tryd.func4, Tryd.ntmps4
  obtain ⟨i0, hi0, hz0, hz1, hz2⟩ := info_parts info_int
  have HI := Lib.hid (And.intro hi0 (And.intro hz0 (And.intro hz1 hz2))); clear hi0 hz0 hz1 hz2
  go_wp2_with fail
  refine (dDrawFrameBytes A m c w hc hs HA.out).mono ?_
  rintro e w1 ⟨a, l, B, d, rfl, hl, hF, ho, hbn⟩
  replace hb := seqB hb hbn
  clear hbn
  clear HA
  have hbox : Hid ((w1.alloc (.cells #[.int .i64 a, .slice B l.length d] 25)).heap[w1.heap.size]? = some (.cells #[.int .i64 a, .slice B l.length d] 25 (0, 0))) := new_box w1 (.cells #[.int .i64 a, .slice B l.length d] 25)
  have g0 : (w1.alloc (.cells #[.int .i64 a, .slice B l.length d] 25)).cell? ⟨w1.heap.size, 0, none⟩ = some (.int .i64 a) := box_cell hbox 0
  have g1 : (w1.alloc (.cells #[.int .i64 a, .slice B l.length d] 25)).cell? ⟨w1.heap.size, 1, none⟩ = some (.slice B l.length d) := box_cell hbox 1
  have hb1 := allocB hb (.cells #[.int .i64 a, .slice B l.length d] 25)
  have ho1 := ho.below (allocB (Below.refl w1.heap.size w1) (.cells #[.int .i64 a, .slice B l.length d] 25))
  go_wp2_with fail
  replace hb := hb1; replace ho := ho1; clear hb1 ho1
  refine (implFBr a B l.length d l _ rfl (by omega) ho.rd).mono ?_
  rintro e w2 ⟨B1, c1, rfl, hr1, hbn⟩
  replace hb := seqB hb hbn
  replace ho := ho.below hbn
  replace hbox := be_box hbox hbn
  clear hbn
  have hrd1 := rd_of_row hr1
  have hcap := row_cap hr1
  have hnil1 := row_none hr1
  have hform : 0 < (frmBytes a l).length → ∃ g, B1 = some ⟨g, 0, none⟩ := fun h => by obtain ⟨g, e, _⟩ := (row_own hr1).form h; exact ⟨g, e⟩
  have HFO := Lib.hid hform
  clear hr1 hform g0 g1
  have g0 : w2.cell? ⟨w1.heap.size, 0, none⟩ = some (.int .i64 a) := box_cell hbox 0
  have g1 : w2.cell? ⟨w1.heap.size, 1, none⟩ = some (.slice B l.length d) := box_cell hbox 1
  have hFl := frmBytes_len a l
  generalize hFB : frmBytes a l = FB at *
  generalize hNl : FB.length = N at *
  have HFB := Lib.hid hFB; have HNl := Lib.hid hNl; clear hFB hNl
  have HNIL := Lib.hid hnil1; clear hnil1
  go_wp2_with fail
  refine (specFB a B l.length d l _ rfl (by omega) ho.rd (fun e => fm_nil hF e)).mono ?_
  rintro e w3 ⟨B2, c2, rfl, ho2, hbn⟩
  replace hb := seqB hb hbn
  replace ho := ho.below hbn
  replace hbox := be_box hbox hbn
  replace hrd1 := hrd1.below hbn
  clear hbn
  rw [HFB.out, HNl.out] at ho2 ⊢
  clear g0 g1
  go_wp2_with fail
  refine (sameInts_same B1 B2 N c1 c2 FB _ HNl.out (by omega) hrd1 ho2.rd).mono ?_
  rintro e w4 ⟨rfl, qw4, rfl⟩
  have hbn := drewB w3 qw4
  generalize w3.drewN qw4 = w4 at *
  replace hb := seqB hb hbn
  replace ho := ho.below hbn
  replace hbox := be_box hbox hbn
  replace hrd1 := hrd1.below hbn
  replace ho2 := ho2.below hbn
  clear hbn
  clear ho2
  by_cases h0 : N = 0
  · have h0' : ((N : Int) == 0) = true := by simp [h0]
    have hv : frmB a l = false := by cases hv : frmB a l with | false => rfl | true => exact absurd (congrArg List.length (HFB.out.symm.trans (frmB_facts hv).2.2.2.2)) (by rw [HNl.out, frmOut_len]; omega)
    have g0 : w4.cell? ⟨w1.heap.size, 0, none⟩ = some (.int .i64 a) := box_cell hbox 0
    have g1 : w4.cell? ⟨w1.heap.size, 1, none⟩ = some (.slice B l.length d) := box_cell hbox 1
    go_wp2_with fail
    refine (implFV a _ _ _ l _ rfl (by omega) ho.rd).mono ?_
    rintro e w5 ⟨rfl, hbn⟩
    replace hb := seqB hb hbn
    replace ho := ho.below hbn
    replace hbox := be_box hbox hbn
    replace hrd1 := hrd1.below hbn
    clear hbn
    rw [hv]
    clear g0 g1 h0 h0'
    go_wp2_with fail
    refine (aliveC _).mono ?_
    rintro e w6 ⟨rfl, hbn⟩
    replace hb := seqB hb hbn
    replace ho := ho.below hbn
    replace hbox := be_box hbox hbn
    replace hrd1 := hrd1.below hbn
    clear hbn
    go_wp2_with fail
    go_ret
    exact ⟨ret_bool (by simp), hb⟩
  · have h0' : ((N : Int) == 0) = false := beq_eq_false_iff_ne.2 (by omega)
    have HV : Hid (frmB a l = true) := by cases hv : frmB a l with | true => rfl | false => exact absurd (by rw [← HNl.out, ← HFB.out, frmBytes, hv]; rfl) h0
    have HFO2 : Hid (FB = frmOut a l) := by rw [Hid, ← HFB.out]; exact (frmB_facts HV.out).2.2.2.2
    have hNv : N = l.length + 5 := by rw [← HNl.out, HFO2.out, frmOut_len]
    have hN5 : 5 ≤ N := by omega
    have HNV := Lib.hid hNv; clear hNv
    obtain ⟨g1b, hgB⟩ := HFO.out (by omega)
    subst hgB
    clear HFO
    have hbx0 : Below w4.heap.size w4 (w4.alloc (.cells #[] 3)) := allocB (Below.refl _ _) _
    have hlit : (w4.alloc (.cells #[] 3)).ownsRow w4.heap.size 3 1 (.slice (some ⟨w4.heap.size, 0, none⟩) 0 0) 0 [] := World.ownsRow_lit w4 #[] 0 (Nat.le_refl _) (Nat.zero_le _) rfl
    have hrdL := hrd1.below hbx0
    go_wp2_with (first | (at_builtin; refine wpList_appN _ rfl _ _ _ rfl w4.heap.size 3 i0 _ 1 8 Tryd.underlying23 HI.out rfl (by omega) _ 0 _ rfl hlit (some ⟨g1b, 0, none⟩) N c1 (ints FB) rfl (by rw [ints_length, HNl.out]; omega) hrdL (fun e => by cases e) (ints_one _) (by omega) (by omega) (by simp) ?_; intro v1 wv1 hown1 hg1; have hbx := grown_row hbx0 rfl hlit hg1; clear hlit hrdL hg1 hbx0; obtain ⟨B5, d5, rfl, hr5⟩ := row_is (n' := N) (cs' := ints FB) hown1 (by omega) rfl; clear hown1; have hrd2 : Rd (wv1.alloc (.cells #[.int .i64 104, .int .i64 7] 3)) (some ⟨wv1.heap.size, 0, none⟩) (ints [104, 7]) := rd_new _ _ _; have hr5a := hr5.alloc (.cells #[.int .i64 104, .int .i64 7] 3); have hbx2 := allocB hbx (.cells #[.int .i64 104, .int .i64 7] 3); clear hr5 hbx) | (at_builtin; refine wpList_appN _ rfl _ _ _ rfl w4.heap.size 3 i0 _ 1 8 Tryd.underlying23 HI.out rfl (by omega) _ N _ rfl hr5a (some ⟨wv1.heap.size, 0, none⟩) 2 2 (ints [104, 7]) rfl rfl hrd2 (fun e => by cases e) (ints_one _) (by omega) (by omega) (by have := hbx2.size; omega) ?_; intro v2 wv2 hown2 hg2))
    have hbn := grown_row hbx2 rfl hr5a hg2
    clear hbx2 hr5a hrd2 hg2
    obtain ⟨B6, d6, rfl, hr6⟩ := row_is (n' := N + 2) (cs' := ints (FB ++ [104, 7])) hown2 rfl (ints_app _ _)
    clear hown2
    replace hb := seqB hb hbn
    replace ho := ho.below hbn
    replace hbox := be_box hbox hbn
    replace hrd1 := hrd1.below hbn
    clear hbn
    obtain ⟨_, e1, e2, e3⟩ := rd_frm a l [104, 7] HV.out
    rw [← HFO2.out] at e1 e2 e3
    have HE := Lib.hid (And.intro e1 (And.intro e2 e3)); clear e1 e2 e3
    refine (implRF B6 (N + 2) d6 (FB ++ [104, 7]) _ (by simp [HNl.out]) (by omega) (row_cap hr6) (rd_of_row hr6)).mono ?_
    rintro e w5 ⟨BX, dX, rfl, hoX, hbn⟩
    replace hb := seqB hb hbn
    replace ho := ho.below hbn
    replace hbox := be_box hbox hbn
    replace hrd1 := hrd1.below hbn
    clear hbn
    rw [HE.out.2.1] at hoX ⊢
    rw [HE.out.1, HE.out.2.2, ← HNV.out]
    clear hr6
    have g0 : (w5.alloc (.cells #[.int .i64 a, .slice BX l.length dX] 25)).cell? ⟨w1.heap.size, 0, none⟩ = some (.int .i64 a) := box_cell (be_box hbox (allocB (Below.refl _ _) _)) 0
    have g1 : (w5.alloc (.cells #[.int .i64 a, .slice BX l.length dX] 25)).cell? ⟨w1.heap.size, 1, none⟩ = some (.slice B l.length d) := box_cell (be_box hbox (allocB (Below.refl _ _) _)) 1
    have x0 : (w5.alloc (.cells #[.int .i64 a, .slice BX l.length dX] 25)).cell? ⟨w5.heap.size, 0, none⟩ = some (.int .i64 a) := box_cell (new_box w5 (.cells #[.int .i64 a, .slice BX l.length dX] 25)) 0
    have x1 : (w5.alloc (.cells #[.int .i64 a, .slice BX l.length dX] 25)).cell? ⟨w5.heap.size, 1, none⟩ = some (.slice BX l.length dX) := box_cell (new_box w5 (.cells #[.int .i64 a, .slice BX l.length dX] 25)) 1
    have hbn := allocB (Below.refl w5.heap.size w5) (.cells #[.int .i64 a, .slice BX l.length dX] 25)
    have hne : ((N : Int) != (N : Int)) = false := by simp
    go_wp2_with fail
    replace hb := seqB hb hbn
    replace ho := ho.below hbn
    replace hbox := be_box hbox hbn
    replace hrd1 := hrd1.below hbn
    replace hoX := hoX.below hbn
    clear hbn
    refine (sameFr a _ _ l.length _ _ l _ rfl (by omega) hoX.rd ho.rd).mono ?_
    rintro e w6 ⟨rfl, hbn⟩
    replace hb := seqB hb hbn
    replace ho := ho.below hbn
    replace hbox := be_box hbox hbn
    replace hrd1 := hrd1.below hbn
    replace hoX := hoX.below hbn
    clear hbn
    clear g0 g1 x0 x1 hoX
    go_wp2_with fail
    have HRD1 := Lib.hid hrd1; have HBX := Lib.hid hbox; have HBB := Lib.hid hb; clear hrd1 hbox hb ho hne h0 h0'
    go_loopw [7] (fun i wr => ∃ k : Nat, k ≤ N ∧ i = .int .i64 k ∧ Below w6.heap.size w6 wr) (fun i _ => N - (intOf i).toNat)
    case atStart => exact ⟨0, by omega, rfl, Below.refl _ _⟩
    case round =>
      obtain ⟨k, hk, rfl, hbw⟩ := hrel
      by_cases hlt : k < N
      · skip
        have hrd1 := HRD1.out.below hbw
        have hi1 : (0 : Int) ≤ (k : Int) ∧ (k : Int) ≤ (c1 : Int) := by omega
        have HNO := Lib.hid (rd_no (show rdOk (FB.take k) = false by rw [HFO2.out]; exact rd_less a l k (by rw [← HFO2.out, HNl.out]; omega)))
        go_wp2_with fail
        refine (implRF (some ⟨g1b, 0, none⟩) k c1 (FB.take k) _ (by simp [HNl.out]; omega) (by omega) (by omega) (rdTakeI hrd1)).mono ?_
        rintro e w7 ⟨BY, dY, rfl, _, hbn⟩
        replace hbw := hbw.trans (hbn.mono hbw.size)
        replace hrd1 := hrd1.below hbn
        clear hbn
        rw [HNO.out.1, HNO.out.2.1, HNO.out.2.2, List.length_nil]
        clear HNO hi1
        have hbx0 : Below w7.heap.size w7 ((w7.alloc (.cells #[.int .i64 0, .slice BY 0 dY] 25)).alloc (.cells #[] 3)) := allocB (allocB (Below.refl _ _) _) _
        have hlit : ((w7.alloc (.cells #[.int .i64 0, .slice BY 0 dY] 25)).alloc (.cells #[] 3)).ownsRow w7.heap.size 3 1 (.slice (some ⟨w7.heap.size + 1, 0, none⟩) 0 0) 0 [] := by simpa using World.ownsRow_lit (base := w7.heap.size) (e := 3) (size := 1) (w7.alloc (.cells #[.int .i64 0, .slice BY 0 dY] 25)) #[] 0 (by simp) (Nat.zero_le _) rfl
        have hrdL := hrd1.below hbx0
        have hx := byteL_get FB k (by rw [HFO2.out]; exact frmOut_byte HV.out)
        generalize hX : FB.getD k 0 = x at *
        have HX := Lib.hid hX; clear hX
        have hm1 : IntKind.i64.wrap (x + 1) = x + 1 := IntWalk.i64_in _ (by omega)
        have hx1 : 0 ≤ x + 1 := by omega
        go_wp2_with (at_builtin; refine wpList_appN _ rfl _ _ _ rfl w7.heap.size 3 i0 _ 1 8 Tryd.underlying23 HI.out rfl (by omega) _ 0 _ rfl hlit (some ⟨g1b, 0, none⟩) N c1 (ints FB) rfl (by rw [ints_length, HNl.out]; omega) hrdL (fun e => by cases e) (ints_one _) (by omega) (by omega) (by simp; omega) ?_; intro v1 wv1 hown1 hg1; have hbx := grown_row hbx0 rfl hlit hg1; clear hlit hrdL hg1 hbx0; obtain ⟨B5, d5, rfl, hr5⟩ := row_is (n' := N) (cs' := ints FB) hown1 (by omega) rfl; clear hown1; have hcap5 := row_cap hr5; have ho5 := row_own hr5; clear hr5; obtain ⟨g5, rfl, hge5, _⟩ := ho5.form (by omega); have hc5 := (ho5.cell (by omega) k (by omega)).trans (ints_at FB k x HX.out (by rw [HNl.out]; exact hlt)); have hf5 := ho5.frozen (by omega) k; have ho6 := ho5.set k (.int .i64 ((x + 1) % 256)); have hbx6 := hbx.setCell (p := ⟨g5, k, none⟩) hge5 (.int .i64 ((x + 1) % 256)); clear ho5 hbx)
        replace hbw := hbw.trans (hbx6.mono hbw.size)
        clear hrd1 hbx6 hc5 hf5
        have HO6 : Hid (ints (FB.set k ((x + 1) % 256)) = (ints FB).set k (.int .i64 ((x + 1) % 256))) := by rw [Hid]; simp [ints, List.map_set]
        have hrd6 := ho6.rd
        rw [← HO6.out] at hrd6
        clear ho6
        have HNO := Lib.hid (rd_no (show rdOk (FB.set k ((x + 1) % 256)) = false by rw [← HX.out, HFO2.out]; exact rd_other a l HV.out k (by rw [← HFO2.out, HNl.out]; exact hlt)))
        refine (implRF (some ⟨g5, 0, none⟩) N d5 (FB.set k ((x + 1) % 256)) _ (by simp [HNl.out]) (by omega) hcap5 hrd6).mono ?_
        rintro e w8 ⟨BZ, dZ, rfl, _, hbn⟩
        replace hbw := hbw.trans (hbn.mono hbw.size)
        clear hbn
        rw [HNO.out.1, HNO.out.2.1, HNO.out.2.2, List.length_nil]
        clear HNO hrd6
        have z0 : (w8.alloc (.cells #[.int .i64 0, .slice BZ 0 dZ] 25)).cell? ⟨w8.heap.size, 0, none⟩ = some (.int .i64 0) := box_cell (new_box w8 (.cells #[.int .i64 0, .slice BZ 0 dZ] 25)) 0
        replace hbw := hbw.trans ((allocB (Below.refl w8.heap.size w8) (.cells #[.int .i64 0, .slice BZ 0 dZ] 25)).mono hbw.size)
        go_wp2_with fail
        go_roundw
        case rel => exact ⟨k + 1, by omega, by go_num, hbw⟩
        case measure => simp [intOf]; omega
      · have hbox := be_box HBX.out hbw
        have g0 : wr.cell? ⟨w1.heap.size, 0, none⟩ = some (.int .i64 a) := box_cell hbox 0
        have g1 : wr.cell? ⟨w1.heap.size, 1, none⟩ = some (.slice B l.length d) := box_cell hbox 1
        have hfin : ((N : Int) == (l.length : Int) + 5) = true := by have := HNV.out; simp; omega
        go_wp2_with fail
        go_ret
        exact ⟨ret_bool (by simp), seqB HBB.out hbw⟩
end Go.Proofs.YtddiloillgbneaaDoor.lFB
