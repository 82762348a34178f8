/- The contract of AlarmTell, of the program. No statement is proved here. -/
import Derived.Test.YtodkccjfhpeoaaaDoorAlT0
namespace Go.Proofs.YtodkccjfhpeoaaaDoor
open Go.RowKit

set_option maxHeartbeats 4000000 in
theorem implAT (ad : Addr) (n c : Nat) (l : List Alarm) (ix ev t : Int) (w : World) (hn : l.length = n) (hm : n ≤ 1048576) (hA : Rd w (some ad) (flatAlarm l)) (hst : ASt w) :
    Calls Tryd.prog 17 #[.slice (some ad) n c, .int .i64 ix, .int .i64 ev, .int .i64 t] w (RetSB 47 3 (flatAlarm (alTellL l ix ev t)) (alTellL l ix ev t).length (alTellB l ix ev t) w) := by
  subst hn
  have HA := Lib.hid hA; clear hA
  have HS0 := Lib.hid hst; clear hst
  cases hv : valAlarm l with
  | false =>
    rw [(tell_bad hv).1, (tell_bad hv).2]
    go_enter Tryd.func17, Tryd.ntmps17
    go_wp2_with fail
    refine (implAV _ _ _ l _ rfl hm HA.out).mono ?_
    rintro e w1 ⟨rfl, hb⟩
    rw [hv]
    go_wp2_with fail
    exact bodyPost_ret (v := .tuple #[.slice none 0 0, .bool false]) (by simp [results, Tryd.results17, go_sem]) rfl ⟨_, _, rfl, Own.nil, hb⟩
  | true =>
    have hl8 := valAlarm_len hv
    have HV := Lib.hid hv; clear hv
    go_enter Tryd.func17, Tryd.ntmps17
    go_wp2_with fail
    refine (implAV _ _ _ l _ rfl hm HA.out).mono ?_
    rintro e w1 ⟨rfl, hb⟩
    rw [HV.out]
    go_wp2_with fail
    refine (cloneA ad l.length c l _ rfl hm (HA.out.below hb)).mono ?_
    rintro e w2 ⟨B2, d2, rfl, hO, hbn⟩
    have HO := Lib.hid (hO.mono hb.size); clear hO
    replace hb := seqB hb hbn
    clear hbn
    have HST := Lib.hid (HS0.out.below hb); clear HS0
    by_cases hx : inB ix 0 ((l.length : Int) - 1) = false
    · obtain ⟨e1, e2⟩ := tell_not (ix := ix) (ev := ev) (t := t) HV.out (by rw [alOk, hx]; rfl)
      have hx' := (inB_not _ _ _).1 hx
      by_cases h0 : ix < 0
      · go_wp2_with fail
        exact bodyPost_ret (v := .tuple #[.slice B2 l.length d2, .bool false]) (by simp [results, Tryd.results17, go_sem]) rfl ⟨_, d2, by rw [e1, e2], by rw [e1]; exact HO.out, hb⟩
      · have h1 : (l.length : Int) ≤ ix := by omega
        go_wp2_with fail
        exact bodyPost_ret (v := .tuple #[.slice B2 l.length d2, .bool false]) (by simp [results, Tryd.results17, go_sem]) rfl ⟨_, d2, by rw [e1, e2], by rw [e1]; exact HO.out, hb⟩
    · have hi := (inB_iff _ _ _).1 (by simpa using hx)
      obtain ⟨i, rfl⟩ := Int.eq_ofNat_of_zero_le hi.1
      have hil : i < l.length := by omega
      have hx2 : inB (i : Int) 0 ((l.length : Int) - 1) = true := by simpa using hx
      clear hx
      have hin : ¬ (i : Int) < 0 := by omega
      have hin2 : ¬ (l.length : Int) ≤ (i : Int) := by omega
      by_cases hev : inB ev 0 2 = false
      · obtain ⟨e1, e2⟩ := tell_not (ix := (i : Int)) (ev := ev) (t := t) HV.out (by rw [alOk, hev, Bool.and_false]; rfl)
        have hx' := (inB_not _ _ _).1 hev
        by_cases h0 : ev < 0
        · go_wp2_with fail
          exact bodyPost_ret (v := .tuple #[.slice B2 l.length d2, .bool false]) (by simp [results, Tryd.results17, go_sem]) rfl ⟨_, d2, by rw [e1, e2], by rw [e1]; exact HO.out, hb⟩
        · have h1 : 2 < ev := by omega
          go_wp2_with fail
          exact bodyPost_ret (v := .tuple #[.slice B2 l.length d2, .bool false]) (by simp [results, Tryd.results17, go_sem]) rfl ⟨_, d2, by rw [e1, e2], by rw [e1]; exact HO.out, hb⟩
      · have hev2 : inB ev 0 2 = true := by simpa using hev
        clear hev
        have hee := (inB_iff _ _ _).1 hev2
        have he0 : ¬ ev < 0 := by omega
        have he1 : ¬ 2 < ev := by omega
        cases ht : inB t 0 999 with
        | false =>
          obtain ⟨e1, e2⟩ := tell_not (ix := (i : Int)) (ev := ev) (t := t) HV.out (by rw [alOk, ht, Bool.and_false])
          go_wp2_with (go_at_call 30; refine (pv_any _ _).mono ?_; rw [ht]; rintro e w' ⟨rfl, rfl⟩)
          exact bodyPost_ret (v := .tuple #[.slice B2 l.length d2, .bool false]) (by simp [results, Tryd.results17, go_sem]) rfl ⟨_, d2, by rw [e1, e2], by rw [e1]; exact HO.out, hb⟩
        | true =>
          obtain ⟨b1, o1, e1, hbl, _, hc1, hc2⟩ := HO.out.rd.atAlarm (k := i) hil
          obtain ⟨g, e3, hge, hglt⟩ := HO.out.form (by omega)
          rw [e1] at e3
          cases e3
          cases e1
          rw [Nat.zero_add] at hc1 hc2
          have hf1 := HO.out.frozen (by omega) (i * 3 + 1)
          have hf2 := HO.out.frozen (by omega) (i * 3 + 2)
          have K1 := Lib.hid (tell_same (t := t) HV.out hil hev2 ht)
          have K2 := Lib.hid (tell_new (t := t) HV.out hil hev2 ht)
          have HS := Lib.hid (fun x y => (HO.out.set (i * 3 + 1) (.int .i64 x)).set (i * 3 + 2) (.int .i64 y))
          have HF := Lib.hid (fun x y => flatA_set l i x y hil)
          generalize hr : l.getD i Alarm.zero = r at *
          cases hs : (alStep r.fState ev != r.fState) with
          | false =>
            obtain ⟨e1, e2⟩ := K1.out (by simpa [bne] using hs)
            go_wp2_with (first | (go_at_call 30; refine (pv_any _ _).mono ?_; rw [ht]; rintro e w' ⟨rfl, rfl⟩) | (go_at_call 9; refine (implAS _ _ _ HST.out).mono ?_; rintro e w' ⟨rfl, rfl⟩))
            exact bodyPost_ret (v := .tuple #[.slice (some ⟨b1, 0, none⟩) l.length d2, .bool true]) (by simp [results, Tryd.results17, go_sem]) rfl ⟨_, d2, by rw [e1, e2], by rw [e1]; exact HO.out, hb⟩
          | true =>
            obtain ⟨e1, e2⟩ := K2.out (by simpa [bne] using hs)
            have hu2' : (w2.setCell ⟨b1, i * 3 + 1, none⟩ (.int .i64 (alStep r.fState ev))).cell? ⟨b1, i * 3 + 2, none⟩ = some (.int .i64 r.fSince) := (World.cell?_setCell_other w2 ⟨b1, i * 3 + 1, none⟩ ⟨b1, i * 3 + 2, none⟩ _ (by intro e; have := congrArg Addr.off e; simp at this)).trans hc2
            have hf2' : (w2.setCell ⟨b1, i * 3 + 1, none⟩ (.int .i64 (alStep r.fState ev))).frozen? ⟨b1, i * 3 + 2, none⟩ = false := (HO.out.set (i * 3 + 1) _).frozen (by omega) (i * 3 + 2)
            generalize hst : alStep r.fState ev = s at *
            have HST2 := Lib.hid hst; clear hst
            go_wp2_with (first | (go_at_call 30; refine (pv_any _ _).mono ?_; rw [ht]; rintro e w' ⟨rfl, rfl⟩) | (go_at_call 9; refine (implAS _ _ _ HST.out).mono ?_; rw [HST2.out]; rintro e w' ⟨rfl, rfl⟩))
            have hO := HS.out s t
            rw [HF.out s t] at hO
            exact bodyPost_ret (v := .tuple #[.slice (some ⟨b1, 0, none⟩) l.length d2, .bool true]) (by simp [results, Tryd.results17, go_sem]) rfl ⟨some ⟨b1, 0, none⟩, d2, by rw [e1, e2]; simp, by rw [e1]; simpa using hO, be_set (be_set hb hge) hge⟩
end Go.Proofs.YtodkccjfhpeoaaaDoor
