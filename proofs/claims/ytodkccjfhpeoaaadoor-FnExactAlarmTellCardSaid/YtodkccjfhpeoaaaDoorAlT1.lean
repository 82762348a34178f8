/- The contract of AlarmTell, of the reference. No statement is proved here. -/
import Derived.Test.YtodkccjfhpeoaaaDoorAlT0
namespace Go.Proofs.YtodkccjfhpeoaaaDoor
open Go.RowKit

set_option maxHeartbeats 4000000 in
theorem specAT (ad : Addr) (n c : Nat) (l : List Alarm) (ix ev t : Int) (w : World) (hn : l.length = n) (hm : n ≤ 1048576) (hA : Rd w (some ad) (flatAlarm l)) :
    Calls Tryd.prog 15 #[.slice (some ad) n c, .int .i64 ix, .int .i64 ev, .int .i64 t] w (RetSB 47 3 (flatAlarm (alTellL l ix ev t)) (alTellL l ix ev t).length (alTellB l ix ev t) w) := by
  subst hn
  have HA := Lib.hid hA; clear hA
  obtain ⟨i0, hi0, hz0, hz1, hz2⟩ := info_parts info_Alarm
  have HI := Lib.hid (And.intro hi0 (And.intro hz0 (And.intro hz1 hz2))); clear hi0 hz0 hz1 hz2
  cases hv : valAlarm l with
  | false =>
    rw [(tell_bad hv).1, (tell_bad hv).2]
    go_enter Tryd.func15, Tryd.ntmps15
    go_wp2_with fail
    refine (specAV _ _ _ l _ rfl hm HA.out).mono ?_
    rintro e w1 ⟨rfl, q, rfl⟩
    rw [hv]
    go_wp2_with fail
    exact bodyPost_ret (v := .tuple #[.slice (some ⟨w.heap.size, 0, none⟩) 0 0, .bool false]) (by simp [results, Tryd.results15, go_sem]) rfl ⟨_, _, rfl, Own.nil, allocB (drewB w q) _⟩
  | true =>
    have hl8 := valAlarm_len hv
    have HV := Lib.hid hv; clear hv
    go_enter Tryd.func15, Tryd.ntmps15
    go_wp2_with fail
    refine (specAV _ _ _ l _ rfl hm HA.out).mono ?_
    rintro e w1 ⟨rfl, q, rfl⟩
    rw [HV.out]
    have hb := drewB w q
    replace HA := Lib.hid (HA.out.drewN q)
    generalize w.drewN q = w1 at *
    have hlit : (w1.alloc (.cells #[] 47)).ownsRow w.heap.size 47 3 (.slice (some ⟨w1.heap.size, 0, none⟩) 0 0) 0 [] := World.ownsRow_lit w1 #[] 0 hb.size (Nat.zero_le _) rfl
    have hrd : Rd (w1.alloc (.cells #[] 47)) (some ad) (flatAlarm l) := HA.out.below (allocB (Below.refl _ _) _)
    replace hb := allocB hb (.cells #[] 47)
    go_wp2_with (at_builtin; refine wpList_appN _ rfl _ _ _ rfl w.heap.size 47 i0 _ 3 24 Tryd.underlying31 HI.out rfl (by omega) _ 0 _ rfl hlit (some ad) l.length c (flatAlarm l) rfl (flatAlarm_length _) hrd (fun e => by cases e) (flatAlarm_one _) (by omega) (by omega) hb.size ?_; intro v1 w2 hown1 hg1)
    obtain ⟨B2, d2, rfl, hr2⟩ := row_is (n' := l.length) (cs' := flatAlarm l) hown1 (by simp) (by simp)
    have hrd2 : Rd w2 (some ad) (flatAlarm l) := by
      refine hrd.kept hg1 ?_
      intro hp a ha e
      have h1 := own_blk e
      obtain ⟨b', o', e', hlt, _⟩ := HA.out hp
      rw [ha] at e'; cases e'
      simp at h1; omega
    replace hb := grown_row hb rfl hlit hg1
    clear hlit hrd hg1 hown1 HA
    have HR := Lib.hid hrd2; clear hrd2
    have HO := Lib.hid (row_own hr2); clear hr2
    cases hx : inB ix 0 ((l.length : Int) - 1) with
    | false =>
      obtain ⟨e1, e2⟩ := tell_not (ix := ix) (ev := ev) (t := t) HV.out (by rw [alOk, hx]; rfl)
      go_wp2_with (go_at_call 27; refine (l1In_any _ _ _ _).mono ?_; rintro e w' ⟨rfl, rfl⟩)
      exact bodyPost_ret (v := .tuple #[.slice B2 l.length d2, .bool false]) (by simp [results, Tryd.results15, go_sem]) rfl ⟨_, d2, by rw [e1, e2], by rw [e1]; exact HO.out, hb⟩
    | true =>
      cases hev : inB ev 0 2 with
      | false =>
        obtain ⟨e1, e2⟩ := tell_not (ix := ix) (ev := ev) (t := t) HV.out (by rw [alOk, hev, Bool.and_false]; rfl)
        go_wp2_with (go_at_call 27; refine (l1In_any _ _ _ _).mono ?_; rintro e w' ⟨rfl, rfl⟩)
        exact bodyPost_ret (v := .tuple #[.slice B2 l.length d2, .bool false]) (by simp [results, Tryd.results15, go_sem]) rfl ⟨_, d2, by rw [e1, e2], by rw [e1]; exact HO.out, hb⟩
      | true =>
        cases ht : inB t 0 999 with
        | false =>
          obtain ⟨e1, e2⟩ := tell_not (ix := ix) (ev := ev) (t := t) HV.out (by rw [alOk, ht, Bool.and_false])
          go_wp2_with (go_at_call 27; refine (l1In_any _ _ _ _).mono ?_; rintro e w' ⟨rfl, rfl⟩)
          exact bodyPost_ret (v := .tuple #[.slice B2 l.length d2, .bool false]) (by simp [results, Tryd.results15, go_sem]) rfl ⟨_, d2, by rw [e1, e2], by rw [e1]; exact HO.out, hb⟩
        | true =>
          have hi := (inB_iff _ _ _).1 hx
          obtain ⟨i, rfl⟩ := Int.eq_ofNat_of_zero_le hi.1
          have hil : i < l.length := by omega
          obtain ⟨b1, o1, e1, hbl, _, hc1, _⟩ := HR.out.atAlarm (k := i) hil
          cases e1
          obtain ⟨g, rfl, hge, hglt⟩ := HO.out.form (by omega)
          obtain ⟨u1, hu1⟩ := HO.out.has (by omega) (i * 3 + 1) (by omega)
          obtain ⟨u2, hu2⟩ := HO.out.has (by omega) (i * 3 + 2) (by omega)
          have hf1 := HO.out.frozen (by omega) (i * 3 + 1)
          have hf2 := HO.out.frozen (by omega) (i * 3 + 2)
          have K1 := Lib.hid (tell_same (t := t) HV.out hil hev ht)
          have K2 := Lib.hid (tell_new (t := t) HV.out hil hev ht)
          have HS := Lib.hid (fun x y => (HO.out.set (i * 3 + 1) (.int .i64 x)).set (i * 3 + 2) (.int .i64 y))
          have HF := Lib.hid (fun x y => flatA_set l i x y hil)
          generalize hr : l.getD i Alarm.zero = r at *
          cases hs : (alStep r.fState ev != r.fState) with
          | false =>
            obtain ⟨e1, e2⟩ := K1.out (by simpa [bne] using hs)
            go_wp2_with (first | (go_at_call 27; refine (l1In_any _ _ _ _).mono ?_; rintro e w' ⟨rfl, rfl⟩) | (go_at_call 8; refine (specAS _ _ _).mono ?_; rintro e w' ⟨rfl, rfl⟩))
            exact bodyPost_ret (v := .tuple #[.slice (some ⟨g, 0, none⟩) l.length d2, .bool true]) (by simp [results, Tryd.results15, go_sem]) rfl ⟨_, d2, by rw [e1, e2], by rw [e1]; exact HO.out, hb⟩
          | true =>
            obtain ⟨e1, e2⟩ := K2.out (by simpa [bne] using hs)
            have hu2' : (w2.setCell ⟨g, i * 3 + 1, none⟩ (.int .i64 (alStep r.fState ev))).cell? ⟨g, i * 3 + 2, none⟩ = some u2 := (World.cell?_setCell_other w2 ⟨g, i * 3 + 1, none⟩ ⟨g, i * 3 + 2, none⟩ _ (by intro e; have := congrArg Addr.off e; simp at this)).trans hu2
            have hf2' : (w2.setCell ⟨g, i * 3 + 1, none⟩ (.int .i64 (alStep r.fState ev))).frozen? ⟨g, i * 3 + 2, none⟩ = false := (HO.out.set (i * 3 + 1) _).frozen (by omega) (i * 3 + 2)
            generalize hst : alStep r.fState ev = s at *
            have HST := Lib.hid hst; clear hst
            go_wp2_with (first | (go_at_call 27; refine (l1In_any _ _ _ _).mono ?_; rintro e w' ⟨rfl, rfl⟩) | (go_at_call 8; refine (specAS _ _ _).mono ?_; rw [HST.out]; rintro e w' ⟨rfl, rfl⟩))
            have hO := HS.out s t
            rw [HF.out s t] at hO
            exact bodyPost_ret (v := .tuple #[.slice (some ⟨g, 0, none⟩) l.length d2, .bool true]) (by simp [results, Tryd.results15, go_sem]) rfl ⟨some ⟨g, 0, none⟩, d2, by rw [e1, e2]; simp, by rw [e1]; simpa using hO, be_set (be_set hb hge) hge⟩

end Go.Proofs.YtodkccjfhpeoaaaDoor
