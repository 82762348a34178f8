/- Contracts of ReportsValid, of the reference and of the program. No statement is proved here. -/
import Derived.Test.YtanogghchmjkgaaDoorStReport
import Derived.Test.YtanogghchmjkgaaDoorSmpV
namespace Go.Proofs.YtanogghchmjkgaaDoor
open Go.RowKit

/-- what is asked of the k-th report -/
def repOk (l : List Report) (k : Nat) : Bool :=
  inB (l.getD k Report.zero).fValue 0 999 && inB (l.getD k Report.zero).fAt 0 19 && (k == 0 || decide ((l.getD (k - 1) Report.zero).fAt < (l.getD k Report.zero).fAt))
def repB (l : List Report) : Bool := (List.range l.length).all (repOk l) && inB l.length 1 20 && (l.getD 0 Report.zero).fAt == 0

theorem all_range_succ {p : Nat → Bool} {k : Nat} (h : Hid ((List.range k).all p = true)) (hk : p k = true) : Hid ((List.range (k + 1)).all p = true) := by
  rw [Hid, List.range_succ, List.all_append, h.out]; simp [hk]
theorem all_range_no {p : Nat → Bool} {n k : Nat} (hn : k < n) (hk : p k = false) : (List.range n).all p = false := by
  rw [List.all_eq_false]; exact ⟨k, by simpa using hn, by simp [hk]⟩
theorem repB_no (l : List Report) (k : Nat) (hk : k < l.length) (h : repOk l k = false) : repB l = false := by
  rw [repB, all_range_no hk h]; rfl

set_option maxHeartbeats 1000000 in
theorem specRV (A : Option Addr) (n c : Nat) (l : List Report) (w : World) (hn : l.length = n) (hm : n ≤ 1048576) (hA : Rd w A (flatReport l)) :
    Calls Tryd.prog 23 #[.slice A n c] w fun e w' => e = .returned (.bool (repB l)) ∧ ∃ q, w' = w.drewN q := by
  have HA := Lib.hid hA; clear hA
  have HN := Lib.hid hn; clear hn
  go_enter Tryd.func23, Tryd.ntmps23
  go_wp2_with fail
  go_loopw [3] (fun i wr => ∃ k : Nat, k ≤ n ∧ i = .int .i64 k ∧ Hid ((List.range k).all (repOk l) = true) ∧ Hid (∃ q, wr = w.drewN q)) (fun i _ => n - (intOf i).toNat)
  case atStart => exact ⟨0, by omega, rfl, by simp [Hid], 0, rfl⟩
  case round =>
    obtain ⟨k, hk, rfl, hp, hq⟩ := hrel
    by_cases hlt : k < n
    · have hA' : Rd wr A (flatReport l) := by obtain ⟨q, rfl⟩ := hq.out; exact HA.out.drewN q
      obtain ⟨b, o, rfl, _, hc0, hc1⟩ := hA'.atReport (k := k) (by have := HN.out; omega)
      by_cases hk0 : k ≤ 0
      · have hr : Hid (repOk l k = (inB (l.getD k Report.zero).fValue 0 999 && inB (l.getD k Report.zero).fAt 0 19)) := by
          have e : k = 0 := by omega
          subst e; simp [Hid, repOk]
        have hg : decide ((0 : Int) < (k : Int)) = false := by simp; omega
        have hg' : decide (0 < k) = false := by simp; omega
        clear hA'
        generalize l.getD k Report.zero = r at *
        cases hv : inB r.fValue 0 999 with
        | false =>
          go_wp2_with fail
          go_quiet ((go_at_call 29; exact quiet_left (l1In_any _ _ _ _)))
          go_wp2_with fail
          go_ret
          exact ⟨ret_bool (repB_no l k (by have := HN.out; omega) (by rw [hr.out, hv]; rfl)).symm, drewN_more hq⟩
        | true =>
          cases ha : inB r.fAt 0 19 with
          | false =>
            go_wp2_with fail
            go_quiet ((go_at_call 29; exact quiet_left (l1In_any _ _ _ _)))
            go_wp2_with fail
            go_ret
            exact ⟨ret_bool (repB_no l k (by have := HN.out; omega) (by rw [hr.out, hv, ha]; rfl)).symm, drewN_more hq⟩
          | true =>
            go_wp2_with fail
            go_quiet ((go_at_call 29; exact quiet_left (l1In_any _ _ _ _)))
            go_wp2_with fail
            go_roundw
            case rel => exact ⟨k + 1, by omega, by go_num, all_range_succ hp (by rw [hr.out, hv, ha]; rfl), drewN_more hq⟩
            case measure => simp [intOf]; omega
      · obtain ⟨b', o', e', _, hd0, hd1⟩ := hA'.atReport (k := k - 1) (by have := HN.out; omega)
        cases e'
        clear hA' hd1
        have hr : Hid (repOk l k = (inB (l.getD k Report.zero).fValue 0 999 && inB (l.getD k Report.zero).fAt 0 19 && decide ((l.getD (k - 1) Report.zero).fAt < (l.getD k Report.zero).fAt))) := by
          have hkn : (k == 0) = false := by simp; omega
          rw [Hid, repOk, hkn, Bool.false_or]
        have hg : decide ((0 : Int) < (k : Int)) = true := by simp; omega
        have hg' : decide (0 < k) = true := by simp; omega
        generalize l.getD k Report.zero = r at *
        generalize l.getD (k - 1) Report.zero = r' at *
        cases hv : inB r.fValue 0 999 with
        | false =>
          go_wp2_with fail
          go_quiet ((go_at_call 29; exact quiet_left (l1In_any _ _ _ _)))
          go_wp2_with fail
          go_ret
          exact ⟨ret_bool (repB_no l k (by have := HN.out; omega) (by rw [hr.out, hv]; rfl)).symm, drewN_more hq⟩
        | true =>
          cases ha : inB r.fAt 0 19 with
          | false =>
            go_wp2_with fail
            go_quiet ((go_at_call 29; exact quiet_left (l1In_any _ _ _ _)))
            go_wp2_with fail
            go_ret
            exact ⟨ret_bool (repB_no l k (by have := HN.out; omega) (by rw [hr.out, hv, ha]; rfl)).symm, drewN_more hq⟩
          | true =>
            by_cases hlt2 : r'.fAt < r.fAt
            · have hge : decide (r.fAt ≤ r'.fAt) = false := by simp; omega
              go_wp2_with fail
              go_quiet ((go_at_call 29; exact quiet_left (l1In_any _ _ _ _)))
              go_wp2_with fail
              go_roundw
              case rel => exact ⟨k + 1, by omega, by go_num, all_range_succ hp (by rw [hr.out, hv, ha]; simpa using hlt2), drewN_more hq⟩
              case measure => simp [intOf]; omega
            · have hge : decide (r.fAt ≤ r'.fAt) = true := by simp; omega
              go_wp2_with fail
              go_quiet ((go_at_call 29; exact quiet_left (l1In_any _ _ _ _)))
              go_wp2_with fail
              go_ret
              exact ⟨ret_bool (repB_no l k (by have := HN.out; omega) (by rw [hr.out, hv, ha]; simpa using hlt2)).symm, drewN_more hq⟩
    · have hA' : Rd wr A (flatReport l) := by obtain ⟨q, rfl⟩ := hq.out; exact HA.out.drewN q
      have hall : Hid ((List.range l.length).all (repOk l) = true) := by
        have := HN.out
        rw [this, show n = k by omega]; exact hp
      cases hb : inB (n : Int) 1 20 with
      | false =>
        go_wp2_with (go_at_call 29; refine (l1In_any _ _ _ _).mono ?_; rintro e w' ⟨rfl, rfl⟩)
        go_ret
        refine ⟨ret_bool ?_, hq.out⟩
        rw [repB, HN.out, hb]; simp
      | true =>
        have h1 : 1 ≤ n := by have := (inB_iff _ _ _).1 hb; omega
        obtain ⟨b, o, rfl, _, hc0, hc1⟩ := hA'.atReport (k := 0) (by have := HN.out; omega)
        rw [Nat.zero_mul, Nat.add_zero] at hc0
        have hrb : Hid (repB l = ((l.getD 0 Report.zero).fAt == 0)) := by
          rw [Hid, repB, hall.out, HN.out, hb]; rfl
        clear hA' hc1
        generalize l.getD 0 Report.zero = r at *
        go_wp2_with (go_at_call 29; refine (l1In_any _ _ _ _).mono ?_; rintro e w' ⟨rfl, rfl⟩)
        go_ret
        exact ⟨ret_bool hrb.out.symm, hq.out⟩

/-- what the program asks of the k-th report -/
def repOk' (l : List Report) (k : Nat) : Bool :=
  inB (l.getD k Report.zero).fValue 0 999 && (k == 0 || decide ((l.getD (k - 1) Report.zero).fAt < (l.getD k Report.zero).fAt))
def repB' (l : List Report) : Bool := inB l.length 1 20 && (l.getD 0 Report.zero).fAt == 0 && decide ((l.getD (l.length - 1) Report.zero).fAt < 20) && (List.range l.length).all (repOk' l)

theorem repB'_eq (l : List Report) : repB' l = repB l := by
  rw [Bool.eq_iff_iff]
  simp only [repB', repB, Bool.and_eq_true, List.all_eq_true, List.mem_range, inB_iff, beq_iff_eq, decide_eq_true_eq, repOk, repOk', Bool.or_eq_true]
  constructor
  · rintro ⟨⟨⟨h1, h2⟩, h3⟩, h4⟩
    refine ⟨⟨fun k hk => ⟨⟨(h4 k hk).1, ?_⟩, (h4 k hk).2⟩, h1⟩, h2⟩
    have up : ∀ i, k + i < l.length → (l.getD k Report.zero).fAt ≤ (l.getD (k + i) Report.zero).fAt := by
      intro i
      induction i with
      | zero => intro _; exact Int.le_refl _
      | succ i ih =>
        intro hi
        have a := ih (by omega)
        rcases (h4 (k + (i + 1)) hi).2 with e | e
        · omega
        · rw [show k + (i + 1) - 1 = k + i by omega] at e; omega
    have dn : ∀ i, i < l.length → (l.getD 0 Report.zero).fAt ≤ (l.getD i Report.zero).fAt := by
      intro i
      induction i with
      | zero => intro _; exact Int.le_refl _
      | succ i ih =>
        intro hi
        have a := ih (by omega)
        rcases (h4 (i + 1) hi).2 with e | e
        · omega
        · rw [show i + 1 - 1 = i by omega] at e; omega
    have a := up (l.length - 1 - k) (by omega)
    rw [show k + (l.length - 1 - k) = l.length - 1 by omega] at a
    have b := dn k hk
    omega
  · rintro ⟨⟨h4, h1⟩, h2⟩
    refine ⟨⟨⟨h1, h2⟩, ?_⟩, fun k hk => ⟨(h4 k hk).1.1, (h4 k hk).2⟩⟩
    have := (h4 (l.length - 1) (by omega)).1.2.2
    omega

set_option maxHeartbeats 1000000 in
theorem implRV (A : Option Addr) (n c : Nat) (l : List Report) (w : World) (hn : l.length = n) (hm : n ≤ 1048576) (hA : Rd w A (flatReport l)) :
    Calls Tryd.prog 18 #[.slice A n c] w fun e w' => e = .returned (.bool (repB l)) ∧ Below w.heap.size w w' := by
  rw [← repB'_eq]
  have HA := Lib.hid hA; clear hA
  have HN := Lib.hid hn; clear hn
  by_cases h1 : 1 ≤ n
  · by_cases h20 : n ≤ 20
    · obtain ⟨b, o, rfl, hbl, hc0, _⟩ := HA.out.atReport (k := 0) (by have := HN.out; omega)
      obtain ⟨b', o', e', _, hd0, _⟩ := HA.out.atReport (k := n - 1) (by have := HN.out; omega)
      cases e'
      rw [Nat.zero_mul, Nat.add_zero] at hc0
      have HR : Hid (repB' l = ((l.getD 0 Report.zero).fAt == 0 && decide ((l.getD (n - 1) Report.zero).fAt < 20) && (List.range n).all (repOk' l))) := by
        rw [Hid, repB', HN.out, (inB_iff _ _ _).2 (by omega)]; rfl
      generalize l.getD 0 Report.zero = r0 at *
      generalize l.getD (n - 1) Report.zero = r1 at *
      cases hz : (r0.fAt == 0) with
      | false =>
        have hz' : (r0.fAt != 0) = true := by simpa using hz
        go_enter Tryd.func18, Tryd.ntmps18
        go_wp2_with fail
        go_ret
        exact ⟨ret_bool (by rw [HR.out, hz]; rfl), Below.refl _ _⟩
      | true =>
        have hz' : (r0.fAt != 0) = false := by simpa using hz
        by_cases hl : r1.fAt < 20
        · have hl' : decide (20 ≤ r1.fAt) = false := by simp; omega
          have hx1 : decide ((n : Int) < 1) = false := by simp; omega
          have hx2 : decide ((20 : Int) < (n : Int)) = false := by simp; omega
          have HR2 : Hid (repB' l = (List.range n).all (repOk' l)) := by rw [Hid, HR.out, hz]; simp [hl]
          clear HR
          go_enter Tryd.func18, Tryd.ntmps18
          go_wp2_with fail
          clear hx1 hx2 hl' hz' hz hd0 hc0
          go_loopw [32] (fun i wr => ∃ k : Nat, k ≤ n ∧ i = .int .i64 k ∧ Hid ((List.range k).all (repOk' l) = true) ∧ Below w.heap.size w wr) (fun i _ => n - (intOf i).toNat)
          case atStart => exact ⟨0, by omega, rfl, by simp [Hid], Below.refl _ _⟩
          case round =>
            obtain ⟨k, hk, rfl, hp, hb⟩ := hrel
            by_cases hlt : k < n
            · have hA' : Rd wr (some ⟨b, o, none⟩) (flatReport l) := HA.out.below hb
              obtain ⟨b', o', e', hbl', hc0, hc1⟩ := hA'.atReport (k := k) (by have := HN.out; omega)
              cases e'
              by_cases hk0 : k ≤ 0
              · have hr : Hid (repOk' l k = (inB (l.getD k Report.zero).fValue 0 999)) := by
                  have e : k = 0 := by omega
                  subst e; simp [Hid, repOk']
                have hg : decide ((0 : Int) < (k : Int)) = false := by simp; omega
                have hg' : decide (0 < k) = false := by simp; omega
                clear hA'
                generalize l.getD k Report.zero = r at *
                cases hv : inB r.fValue 0 999 with
                | false =>
                  go_wp2_with fail
                  go_quiet ((go_at_call 32; exact quiet_left (pv_any _ _)))
                  go_wp2_with fail
                  go_ret
                  exact ⟨ret_bool (by rw [HR2.out, all_range_no hlt (by rw [hr.out, hv])]), drewNB (allocB hb _) _⟩
                | true =>
                  go_wp2_with fail
                  go_quiet ((go_at_call 32; exact quiet_left (pv_any _ _)))
                  go_wp2_with fail
                  go_roundw
                  case rel => exact ⟨k + 1, by omega, by go_num, all_range_succ hp (by rw [hr.out, hv]), drewNB (allocB hb _) _⟩
                  case measure => simp [intOf]; omega
              · obtain ⟨b', o', e', _, hd0, hd1⟩ := hA'.atReport (k := k - 1) (by have := HN.out; omega)
                cases e'
                clear hA' hd1
                have hr : Hid (repOk' l k = (inB (l.getD k Report.zero).fValue 0 999 && decide ((l.getD (k - 1) Report.zero).fAt < (l.getD k Report.zero).fAt))) := by
                  have hkn : (k == 0) = false := by simp; omega
                  rw [Hid, repOk', hkn, Bool.false_or]
                have hg : decide ((0 : Int) < (k : Int)) = true := by simp; omega
                have hg' : decide (0 < k) = true := by simp; omega
                generalize l.getD k Report.zero = r at *
                generalize l.getD (k - 1) Report.zero = r' at *
                have hda := (World.cell?_alloc_lt wr (.cells #[.int .i64 r.fAt, .int .i64 r.fValue] 31) ⟨b, o + (k - 1) * 2, none⟩ hbl').trans hd0
                cases hv : inB r.fValue 0 999 with
                | false =>
                  go_wp2_with fail
                  go_quiet ((go_at_call 32; exact quiet_left (pv_any _ _)))
                  go_wp2_with fail
                  go_ret
                  exact ⟨ret_bool (by rw [HR2.out, all_range_no hlt (by rw [hr.out, hv]; rfl)]), drewNB (allocB hb _) _⟩
                | true =>
                  by_cases hlt2 : r'.fAt < r.fAt
                  · have hge : decide (r.fAt ≤ r'.fAt) = false := by simp; omega
                    go_wp2_with fail
                    go_quiet ((go_at_call 32; exact quiet_left (pv_any _ _)))
                    go_wp2_with fail
                    go_roundw
                    case rel => exact ⟨k + 1, by omega, by go_num, all_range_succ hp (by rw [hr.out, hv]; simpa using hlt2), drewNB (allocB hb _) _⟩
                    case measure => simp [intOf]; omega
                  · have hge : decide (r.fAt ≤ r'.fAt) = true := by simp; omega
                    go_wp2_with fail
                    go_quiet ((go_at_call 32; exact quiet_left (pv_any _ _)))
                    go_wp2_with fail
                    go_ret
                    exact ⟨ret_bool (by rw [HR2.out, all_range_no hlt (by rw [hr.out, hv]; simpa using hlt2)]), drewNB (allocB hb _) _⟩
            · go_wp2_with fail
              go_ret
              have hkn : k = n := by omega
              subst hkn
              exact ⟨ret_bool (by rw [HR2.out, hp.out]), hb⟩
        · go_enter Tryd.func18, Tryd.ntmps18
          go_wp2_with fail
          go_ret
          exact ⟨ret_bool (by rw [HR.out, hz]; simp; omega), Below.refl _ _⟩
    · go_enter Tryd.func18, Tryd.ntmps18
      go_wp2_with fail
      go_ret
      exact ⟨ret_bool (by rw [repB', HN.out, (inB_not _ _ _).2 (by omega)]; rfl), Below.refl _ _⟩
  · go_enter Tryd.func18, Tryd.ntmps18
    go_wp2_with fail
    go_ret
    exact ⟨ret_bool (by rw [repB', HN.out, (inB_not _ _ _).2 (by omega)]; rfl), Below.refl _ _⟩
end Go.Proofs.YtanogghchmjkgaaDoor
