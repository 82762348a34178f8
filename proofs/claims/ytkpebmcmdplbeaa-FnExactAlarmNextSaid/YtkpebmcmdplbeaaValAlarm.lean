/- Contracts of spec.AlarmsValid and impl.AlarmsValid: at most 8, each with its fields in their ranges. No statement is proved here. -/
import Derived.Test.YtkpebmcmdplbeaaStAlarm
import Derived.Test.YtkpebmcmdplbeaaAll
namespace Go.Proofs.Ytkpebmcmdplbeaa
open Go.RowKit

def okAlarm (r : Alarm) : Bool := inB r.fRank 0 9 && inB r.fState 0 3 && inB r.fSince 0 999
def valAlarm (l : List Alarm) : Bool := l.all okAlarm && decide (l.length ≤ 8)
theorem valAlarm_len {l : List Alarm} (h : valAlarm l = true) : l.length ≤ 8 := by simpa using (Bool.and_eq_true_iff.1 h).2
theorem valAlarm_at {l : List Alarm} (h : valAlarm l = true) {k : Nat} (hk : k < l.length) : okAlarm (l.getD k Alarm.zero) = true := by
  have := (Bool.and_eq_true_iff.1 h).1
  rw [List.all_eq_true] at this
  have := this _ (List.getElem_mem hk)
  simpa [hk] using this

set_option maxHeartbeats 1000000 in
theorem specAV (A : Option Addr) (n c : Nat) (l : List Alarm) (w : World) (hn : l.length = n) (hm : n ≤ 1048576) (hA : Rd w A (flatAlarm l)) :
    Calls Try.prog 9 #[.slice A n c] w fun e w' => e = .returned (.bool (valAlarm l)) ∧ ∃ q, w' = w.drewN q := by
  have HA := Lib.hid hA; clear hA
  have HN := Lib.hid hn; clear hn
  go_enter Try.func9, Try.ntmps9
  go_wp2_with fail
  go_loop [3] (fun i => ∃ k : Nat, k ≤ n ∧ i = .int .i64 k ∧ Hid ((l.take k).all okAlarm = true)) (fun i => n - (intOf i).toNat)
  case atStart => exact ⟨0, by omega, rfl, by simp [Hid]⟩
  case round =>
    obtain ⟨k, hk, rfl, hp⟩ := hrel
    by_cases hlt : k < n
    · obtain ⟨b, o, rfl, _, hc0, hc1, hc2⟩ := HA.out.atAlarm (k := k) (by have := HN.out; omega)
      have HT := Lib.hid (all_take_succ okAlarm l Alarm.zero k (by have := HN.out; omega))
      have HF := Lib.hid (all_false okAlarm l Alarm.zero k (by have := HN.out; omega))
      generalize l.getD k Alarm.zero = r at *
      cases hv0 : inB r.fRank 0 9 with
      | false =>
        have e : okAlarm r = false := by simp [okAlarm, hv0]
        have HE := Lib.hid e; clear e
        go_wp2_with (go_at_call 13; refine (l1In_any _ _ _ _).mono ?_; rintro e w' ⟨rfl, rfl⟩)
        go_ret
        exact ⟨ret_bool (by rw [valAlarm, HF.out HE.out]; rfl), 0, rfl⟩
      | true =>
        cases hv1 : inB r.fState 0 3 with
        | false =>
          have e : okAlarm r = false := by simp [okAlarm, hv1]
          have HE := Lib.hid e; clear e
          go_wp2_with (go_at_call 13; refine (l1In_any _ _ _ _).mono ?_; rintro e w' ⟨rfl, rfl⟩)
          go_ret
          exact ⟨ret_bool (by rw [valAlarm, HF.out HE.out]; rfl), 0, rfl⟩
        | true =>
          cases hv2 : inB r.fSince 0 999 with
          | false =>
            have e : okAlarm r = false := by simp [okAlarm, hv2]
            have HE := Lib.hid e; clear e
            go_wp2_with (go_at_call 13; refine (l1In_any _ _ _ _).mono ?_; rintro e w' ⟨rfl, rfl⟩)
            go_ret
            exact ⟨ret_bool (by rw [valAlarm, HF.out HE.out]; rfl), 0, rfl⟩
          | true =>
            have e : okAlarm r = true := by simp [okAlarm, hv0, hv1, hv2]
            have HE := Lib.hid e; clear e
            go_wp2_with (go_at_call 13; refine (l1In_any _ _ _ _).mono ?_; rintro e w' ⟨rfl, rfl⟩)
            go_round
            case rel => exact ⟨k + 1, by omega, by go_num, by rw [Hid, HT.out, hp.out, HE.out]; rfl⟩
            case measure => simp [intOf]; omega
    · go_wp2_with fail
      go_ret
      refine ⟨ret_bool ?_, 0, rfl⟩
      have hq := HN.out
      rw [valAlarm, ← all_take_all _ l k (by omega), hp.out, hq, Bool.true_and]
      exact decide_eq_decide.2 (by omega)

set_option maxHeartbeats 1000000 in
theorem implAV (A : Option Addr) (n c : Nat) (l : List Alarm) (w : World) (hn : l.length = n) (hm : n ≤ 1048576) (hA : Rd w A (flatAlarm l)) :
    Calls Try.prog 14 #[.slice A n c] w fun e w' => e = .returned (.bool (valAlarm l)) ∧ Below w.heap.size w w' := by
  have HA := Lib.hid hA; clear hA
  have HN := Lib.hid hn; clear hn
  by_cases hmax : n ≤ 8
  case neg =>
    go_enter Try.func14, Try.ntmps14
    go_wp2_with fail
    go_ret
    exact ⟨ret_bool (by rw [valAlarm, HN.out, decide_eq_false hmax, Bool.and_false]), Below.refl _ _⟩
  go_enter Try.func14, Try.ntmps14
  go_wp2_with fail
  go_loopw [10] (fun i wr => ∃ k : Nat, k ≤ n ∧ i = .int .i64 k ∧ Hid ((l.take k).all okAlarm = true) ∧ Below w.heap.size w wr) (fun i _ => n - (intOf i).toNat)
  case atStart => exact ⟨0, by omega, rfl, by simp [Hid], Below.refl _ _⟩
  case round =>
    obtain ⟨k, hk, rfl, hp, hb⟩ := hrel
    by_cases hlt : k < n
    · obtain ⟨b, o, rfl, _, hc0, hc1, hc2⟩ := (HA.out.below hb).atAlarm (k := k) (by have := HN.out; omega)
      have HT := Lib.hid (all_take_succ okAlarm l Alarm.zero k (by have := HN.out; omega))
      have HF := Lib.hid (all_false okAlarm l Alarm.zero k (by have := HN.out; omega))
      generalize l.getD k Alarm.zero = r at *
      cases hv0 : inB r.fRank 0 9 with
      | false =>
        have e : okAlarm r = false := by simp [okAlarm, hv0]
        have HE := Lib.hid e; clear e
        rcases (inB_not _ _ _).1 hv0 with h0 | h0
        · clear hv0
          go_wp2_with (go_at_call 19; refine (pv_any _ _).mono ?_; rintro e w' ⟨rfl, rfl⟩)
          go_ret
          exact ⟨ret_bool (by rw [valAlarm, HF.out HE.out]; rfl), allocB hb _⟩
        · clear hv0
          go_wp2_with (go_at_call 19; refine (pv_any _ _).mono ?_; rintro e w' ⟨rfl, rfl⟩)
          go_ret
          exact ⟨ret_bool (by rw [valAlarm, HF.out HE.out]; rfl), allocB hb _⟩
      | true =>
        obtain ⟨hlo0, hhi0⟩ := (inB_iff _ _ _).1 hv0
        cases hv1 : inB r.fState 0 3 with
        | false =>
          have e : okAlarm r = false := by simp [okAlarm, hv1]
          have HE := Lib.hid e; clear e
          rcases (inB_not _ _ _).1 hv1 with h1 | h1
          · clear hv1
            go_wp2_with (go_at_call 19; refine (pv_any _ _).mono ?_; rintro e w' ⟨rfl, rfl⟩)
            go_ret
            exact ⟨ret_bool (by rw [valAlarm, HF.out HE.out]; rfl), allocB hb _⟩
          · clear hv1
            go_wp2_with (go_at_call 19; refine (pv_any _ _).mono ?_; rintro e w' ⟨rfl, rfl⟩)
            go_ret
            exact ⟨ret_bool (by rw [valAlarm, HF.out HE.out]; rfl), allocB hb _⟩
        | true =>
          obtain ⟨hlo1, hhi1⟩ := (inB_iff _ _ _).1 hv1
          cases hv2 : inB r.fSince 0 999 with
          | false =>
            have e : okAlarm r = false := by simp [okAlarm, hv2]
            have HE := Lib.hid e; clear e
            go_wp2_with (go_at_call 19; refine (pv_any _ _).mono ?_; rintro e w' ⟨rfl, rfl⟩)
            go_ret
            exact ⟨ret_bool (by rw [valAlarm, HF.out HE.out]; rfl), allocB hb _⟩
          | true =>
            have e : okAlarm r = true := by simp [okAlarm, hv0, hv1, hv2]
            have HE := Lib.hid e; clear e
            go_wp2_with (go_at_call 19; refine (pv_any _ _).mono ?_; rintro e w' ⟨rfl, rfl⟩)
            go_roundw
            case rel => exact ⟨k + 1, by omega, by go_num, by rw [Hid, HT.out, hp.out, HE.out]; rfl, allocB hb _⟩
            case measure => simp [intOf]; omega
    · go_wp2_with fail
      go_ret
      refine ⟨ret_bool ?_, hb⟩
      have hq := HN.out
      rw [valAlarm, ← all_take_all _ l k (by omega), hp.out, hq, decide_eq_true hmax]; rfl
end Go.Proofs.Ytkpebmcmdplbeaa
