/- The walk of FnReadFrame: it returns true, and writes nothing that was there. -/
import Derived.Test.YtddiloillgbneaaDoorDrY
import Derived.Test.YtddiloillgbneaaDoorSmF
namespace Go.Proofs.YtddiloillgbneaaDoor.lRF
open Go.RowKit Go.Proofs.YtddiloillgbneaaDoor

set_option maxRecDepth 100000 in
set_option maxHeartbeats 4000000 in
theorem walk (w : World) (A : Option Addr) (m c : Nat) (hc : m ≤ c) (hm : m ≤ maxLen) (hA : RdB w A m) :
    Calls Tryd.prog 5 #[.slice A m c] w fun e w' => e = .returned (.bool true) ∧ Below w.heap.size w w' := by
  unfold maxLen at hm
  by_cases hs : m ≤ 1048576
  case neg =>
    go_enter Tryd.func5, Tryd.ntmps5
    go_wp2_with fail
    go_ret
    exact ⟨rfl, Below.refl _ _⟩
  have HA := Lib.hid hA; clear hA
  have hb : Below w.heap.size w w := Below.refl _ _
  go_enter Tryd.func5, Tryd.ntmps5
  go_wp2_with fail
  refine (dDrawReadFrame A m c w hc hs HA.out).mono ?_
  rintro e w1 ⟨l, B, d, rfl, hl, hF, ho, hbn⟩
  replace hb := seqB hb hbn
  clear hbn
  clear HA
  have hld := hF.1
  go_wp2_with fail
  refine (implRF B l.length d l _ rfl (by omega) hld ho.rd).mono ?_
  rintro e w2 ⟨BX, dX, rfl, hoX, hbn⟩
  replace hb := seqB hb hbn
  replace ho := ho.below hbn
  clear hbn
  have hVl := rdB_len l
  have hNl := rdN_le l
  generalize hV : rdB l = V at *
  generalize ha : rdA l = a at *
  generalize hN : rdN l = N at *
  have HV := Lib.hid hV; have HAA := Lib.hid ha; have HN := Lib.hid hN; clear hV ha hN
  have hbxn : Hid ((w2.alloc (.cells #[.int .i64 a, .slice BX V.length dX] 25)).heap[w2.heap.size]? = some (.cells #[.int .i64 a, .slice BX V.length dX] 25 (0, 0))) := new_box w2 (.cells #[.int .i64 a, .slice BX V.length dX] 25)
  have hbn := allocB (Below.refl w2.heap.size w2) (.cells #[.int .i64 a, .slice BX V.length dX] 25)
  replace hb := seqB hb hbn
  replace ho := ho.below hbn
  replace hoX := hoX.below hbn
  clear hbn
  have hbx := hbxn; clear hbxn
  go_wp2_with fail
  refine (specRF B l.length d l _ rfl (by omega) hld ho.rd).mono ?_
  rintro e w3 ⟨BY, dY, rfl, hoY, hbn⟩
  replace hb := seqB hb hbn
  replace ho := ho.below hbn
  replace hoX := hoX.below hbn
  replace hbx := be_box hbx hbn
  clear hbn
  rw [HV.out] at hoY ⊢
  rw [HAA.out, HN.out]
  have hbyn : Hid ((w3.alloc (.cells #[.int .i64 a, .slice BY V.length dY] 25)).heap[w3.heap.size]? = some (.cells #[.int .i64 a, .slice BY V.length dY] 25 (0, 0))) := new_box w3 (.cells #[.int .i64 a, .slice BY V.length dY] 25)
  have hbn := allocB (Below.refl w3.heap.size w3) (.cells #[.int .i64 a, .slice BY V.length dY] 25)
  replace hb := seqB hb hbn
  replace ho := ho.below hbn
  replace hoX := hoX.below hbn
  replace hbx := be_box hbx hbn
  replace hoY := hoY.below hbn
  clear hbn
  have hby := hbyn; clear hbyn
  have x0 := box_cell hbx 0; have x1 := box_cell hbx 1; have y0 := box_cell hby 0; have y1 := box_cell hby 1
  simp at x0 x1 y0 y1
  have hne : ((N : Int) != (N : Int)) = false := by simp
  go_wp2_with fail
  refine (sameFr a BX BY V.length dX dY V _ rfl (by omega) hoX.rd hoY.rd).mono ?_
  rintro e w4 ⟨rfl, hbn⟩
  replace hb := seqB hb hbn
  replace ho := ho.below hbn
  replace hoX := hoX.below hbn
  replace hbx := be_box hbx hbn
  replace hoY := hoY.below hbn
  replace hby := be_box hby hbn
  clear hbn
  clear x0 x1 y0 y1 hne hby hoY
  cases hok : rdOk l with
  | false =>
    obtain ⟨e1, e2, e3⟩ := rd_no hok
    rw [HN.out] at e1; rw [HAA.out] at e2; rw [HV.out] at e3
    subst e1; subst e2; subst e3
    have x0 := box_cell hbx 0; have x1 := box_cell hbx 1
    simp at x0 x1
    go_wp2_with fail
    refine (aliveC _).mono ?_
    rintro e w5 ⟨rfl, hbn⟩
    replace hb := seqB hb hbn
    replace ho := ho.below hbn
    replace hoX := hoX.below hbn
    replace hbx := be_box hbx hbn
    clear hbn
    go_wp2_with fail
    go_ret
    exact ⟨ret_bool (by simp), hb⟩
  | true =>
    have hN5 := rdN_pos hok
    obtain ⟨v1, v2, _⟩ := rd_valid hok
    rw [HN.out] at hN5 v2; rw [HAA.out, HV.out] at v1 v2
    have HV1 := Lib.hid v1; have HV2 := Lib.hid v2; clear v1 v2
    obtain ⟨gB, rfl, _, _⟩ := ho.form (by omega)
    have x0 := box_cell hbx 0; have x1 := box_cell hbx 1
    simp at x0 x1
    have hrl : Hid (Rd w4.drew _ _) := Lib.hid ho.rd; have hrx : Hid (Rd w4.drew _ _) := Lib.hid hoX.rd
    have hbd := drew1B hb
    have HFV : Hid (Calls Tryd.prog 8 #[.agg #[.int .i64 a, .slice BX V.length dX]] w4.drew fun e w' => e = .returned (.bool true) ∧ Below w4.heap.size w4.drew w') := by have := implFV a BX V.length dX V w4.drew rfl (by omega) hrx.out; rw [HV1.out] at this; exact this
    have HTL : Hid ((l.take N).length = N) := by rw [Hid]; simp; omega
    have n1 : decide ((0 : Int) < (N : Int)) = true := by simp; omega
    have n1' : decide (0 < N) = true := by simp; omega
    have n2 : decide ((N : Int) ≤ (l.length : Int)) = true := by simp; omega
    have n2' : decide (N ≤ l.length) = true := by simp; omega
    have n3 : 0 ≤ (N : Int) ∧ (N : Int) ≤ (d : Int) := by omega
    have n4 : ((N : Int) == 0) = false := beq_eq_false_iff_ne.2 (by omega)
    have hVN : V.length ≤ 12 := hVl
    have hN80 : N ≤ 80 := by omega
    clear ho hoX hok hl hVl hNl hld hF
    go_wp2_with fail
    go_region_held3 (fun W' => W'.cell? ⟨w2.heap.size, 0, none⟩ = some (.int .i64 a) ∧ W'.cell? ⟨w2.heap.size, 1, none⟩ = some (.slice BX V.length dX)) (first | go_keep | (go_split_ands; refine ⟨?_, ?_⟩ <;> go_keep) | (go_split_ands; refine ⟨?_, ?_⟩ <;> exact keepC (by assumption) hbf) | (go_split_ands; refine ⟨?_, ?_⟩ <;> exact keepC (by assumption) hbv)) (first | (go_at_call 8; refine (HFV.out).mono ?_; rintro e wv ⟨rfl, hbv⟩) | (go_at_call 12; refine (implFBr a BX V.length dX V wv rfl (by omega) (hrx.out.below hbv)).mono ?_; rintro e wf ⟨B2, d2, rfl, hr2, hbf⟩; rw [HV2.out] at hr2 ⊢; rw [HTL.out] at hr2 ⊢; have hrd2 := rd_of_row hr2) | (go_at_call 13; refine (sameInts_same B2 (some ⟨gB, 0, none⟩) N d2 d (l.take N) _ HTL.out (by omega) hrd2 (rdTakeI ((hrl.out.below hbv).below hbf))).mono ?_; rintro e we ⟨rfl, q, rfl⟩))
    all_goals
      go_wp2_with fail
      go_ret
      exact ⟨rfl, drewNB (seqB (seqB hbd hbv) hbf) q⟩
end Go.Proofs.YtddiloillgbneaaDoor.lRF
