/- Contracts of spec.SideValid and impl.SideValid: at most 6, each with its fields in their ranges. No statement is proved here. -/
import Derived.Test.YtlhfkidgmdojjaaDoorStOrder
import Derived.Test.YtlhfkidgmdojjaaDoorAll
namespace Go.Proofs.YtlhfkidgmdojjaaDoor
open Go.RowKit

def okOrder (r : Order) : Bool := inB r.fPrice 0 999 && inB r.fMany 1 999
def valOrder (l : List Order) : Bool := l.all okOrder && decide (l.length ≤ 6)
theorem valOrder_len {l : List Order} (h : valOrder l = true) : l.length ≤ 6 := by simpa using (Bool.and_eq_true_iff.1 h).2
theorem valOrder_at {l : List Order} (h : valOrder l = true) {k : Nat} (hk : k < l.length) : okOrder (l.getD k Order.zero) = true := by
  have := (Bool.and_eq_true_iff.1 h).1
  rw [List.all_eq_true] at this
  have := this _ (List.getElem_mem hk)
  simpa [hk] using this

set_option maxHeartbeats 1000000 in
theorem specSdV (A : Option Addr) (n c : Nat) (l : List Order) (w : World) (hn : l.length = n) (hm : n ≤ 1048576) (hA : Rd w A (flatOrder l)) :
    Calls Tryd.prog 11 #[.slice A n c] w fun e w' => e = .returned (.bool (valOrder l)) ∧ ∃ q, w' = w.drewN q := by
  have HA := Lib.hid hA; clear hA
  have HN := Lib.hid hn; clear hn
  go_enter Tryd.func11, Tryd.ntmps11
  go_wp2_with fail
  go_loop [3] (fun i => ∃ k : Nat, k ≤ n ∧ i = .int .i64 k ∧ Hid ((l.take k).all okOrder = true)) (fun i => n - (intOf i).toNat)
  case atStart => exact ⟨0, by omega, rfl, by simp [Hid]⟩
  case round =>
    obtain ⟨k, hk, rfl, hp⟩ := hrel
    by_cases hlt : k < n
    · obtain ⟨b, o, rfl, _, hc0, hc1⟩ := HA.out.atOrder (k := k) (by have := HN.out; omega)
      have HT := Lib.hid (all_take_succ okOrder l Order.zero k (by have := HN.out; omega))
      have HF := Lib.hid (all_false okOrder l Order.zero k (by have := HN.out; omega))
      generalize l.getD k Order.zero = r at *
      cases hv0 : inB r.fPrice 0 999 with
      | false =>
        have e : okOrder r = false := by simp [okOrder, hv0]
        have HE := Lib.hid e; clear e
        go_wp2_with (go_at_call 28; refine (l1In_any _ _ _ _).mono ?_; rintro e w' ⟨rfl, rfl⟩)
        go_ret
        exact ⟨ret_bool (by rw [valOrder, HF.out HE.out]; rfl), 0, rfl⟩
      | true =>
        cases hv1 : inB r.fMany 1 999 with
        | false =>
          have e : okOrder r = false := by simp [okOrder, hv1]
          have HE := Lib.hid e; clear e
          go_wp2_with (go_at_call 28; refine (l1In_any _ _ _ _).mono ?_; rintro e w' ⟨rfl, rfl⟩)
          go_ret
          exact ⟨ret_bool (by rw [valOrder, HF.out HE.out]; rfl), 0, rfl⟩
        | true =>
          have e : okOrder r = true := by simp [okOrder, hv0, hv1]
          have HE := Lib.hid e; clear e
          go_wp2_with (go_at_call 28; refine (l1In_any _ _ _ _).mono ?_; rintro e w' ⟨rfl, rfl⟩)
          go_round
          case rel => exact ⟨k + 1, by omega, by go_num, by rw [Hid, HT.out, hp.out, HE.out]; rfl⟩
          case measure => simp [intOf]; omega
    · go_wp2_with fail
      go_ret
      refine ⟨ret_bool ?_, 0, rfl⟩
      have hq := HN.out
      rw [valOrder, ← all_take_all _ l k (by omega), hp.out, hq, Bool.true_and]
      exact decide_eq_decide.2 (by omega)

set_option maxHeartbeats 1000000 in
theorem implSdV (A : Option Addr) (n c : Nat) (l : List Order) (w : World) (hn : l.length = n) (hm : n ≤ 1048576) (hA : Rd w A (flatOrder l)) :
    Calls Tryd.prog 25 #[.slice A n c] w fun e w' => e = .returned (.bool (valOrder l)) ∧ Below w.heap.size w w' := by
  have HA := Lib.hid hA; clear hA
  have HN := Lib.hid hn; clear hn
  by_cases hmax : n ≤ 6
  case neg =>
    go_enter Tryd.func25, Tryd.ntmps25
    go_wp2_with fail
    go_ret
    exact ⟨ret_bool (by rw [valOrder, HN.out, decide_eq_false hmax, Bool.and_false]), Below.refl _ _⟩
  go_enter Tryd.func25, Tryd.ntmps25
  go_wp2_with fail
  go_loopw [10] (fun i wr => ∃ k : Nat, k ≤ n ∧ i = .int .i64 k ∧ Hid ((l.take k).all okOrder = true) ∧ Below w.heap.size w wr) (fun i _ => n - (intOf i).toNat)
  case atStart => exact ⟨0, by omega, rfl, by simp [Hid], Below.refl _ _⟩
  case round =>
    obtain ⟨k, hk, rfl, hp, hb⟩ := hrel
    by_cases hlt : k < n
    · obtain ⟨b, o, rfl, _, hc0, hc1⟩ := (HA.out.below hb).atOrder (k := k) (by have := HN.out; omega)
      have HT := Lib.hid (all_take_succ okOrder l Order.zero k (by have := HN.out; omega))
      have HF := Lib.hid (all_false okOrder l Order.zero k (by have := HN.out; omega))
      generalize l.getD k Order.zero = r at *
      cases hv0 : inB r.fPrice 0 999 with
      | false =>
        have e : okOrder r = false := by simp [okOrder, hv0]
        have HE := Lib.hid e; clear e
        go_wp2_with (go_at_call 32; refine (pv_any _ _).mono ?_; rintro e w' ⟨rfl, rfl⟩)
        go_ret
        exact ⟨ret_bool (by rw [valOrder, HF.out HE.out]; rfl), allocB hb _⟩
      | true =>
        cases hv1 : inB r.fMany 1 999 with
        | false =>
          have e : okOrder r = false := by simp [okOrder, hv1]
          have HE := Lib.hid e; clear e
          rcases (inB_not _ _ _).1 hv1 with h1 | h1
          · clear hv1
            go_wp2_with (go_at_call 32; refine (pv_any _ _).mono ?_; rintro e w' ⟨rfl, rfl⟩)
            go_ret
            exact ⟨ret_bool (by rw [valOrder, HF.out HE.out]; rfl), allocB hb _⟩
          · clear hv1
            go_wp2_with (go_at_call 32; refine (pv_any _ _).mono ?_; rintro e w' ⟨rfl, rfl⟩)
            go_ret
            exact ⟨ret_bool (by rw [valOrder, HF.out HE.out]; rfl), allocB hb _⟩
        | true =>
          obtain ⟨hlo1, hhi1⟩ := (inB_iff _ _ _).1 hv1
          have e : okOrder r = true := by simp [okOrder, hv0, hv1]
          have HE := Lib.hid e; clear e
          go_wp2_with (go_at_call 32; refine (pv_any _ _).mono ?_; rintro e w' ⟨rfl, rfl⟩)
          go_roundw
          case rel => exact ⟨k + 1, by omega, by go_num, by rw [Hid, HT.out, hp.out, HE.out]; rfl, allocB hb _⟩
          case measure => simp [intOf]; omega
    · go_wp2_with fail
      go_ret
      refine ⟨ret_bool ?_, hb⟩
      have hq := HN.out
      rw [valOrder, ← all_take_all _ l k (by omega), hp.out, hq, decide_eq_true hmax]; rfl
end Go.Proofs.YtlhfkidgmdojjaaDoor
