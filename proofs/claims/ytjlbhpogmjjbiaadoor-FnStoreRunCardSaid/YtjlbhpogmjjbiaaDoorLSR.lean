/- The walk of FnStoreRun: it returns true, and writes nothing that was there. -/
import Derived.Test.YtjlbhpogmjjbiaaDoorDrS
import Derived.Test.YtjlbhpogmjjbiaaDoorLawI
import Derived.Test.YtjlbhpogmjjbiaaDoorBatM
import Derived.Test.YtjlbhpogmjjbiaaDoorBatN
import Derived.Deep.RegionHeld3
import Derived.IntWalk
namespace Go.Proofs.YtjlbhpogmjjbiaaDoor
open Go.RowKit
theorem rdTake {w : World} {b o h : Nat} {xs : List Int} (hr : Rd w (some ⟨b, o, none⟩) (ints xs)) : Rd w (some ⟨b, o, none⟩) (ints (xs.take h)) := by
  intro h0
  obtain ⟨b', o', e, hl, hc⟩ := hr (by simp [ints] at h0 ⊢; omega)
  cases e
  refine ⟨b, o, rfl, hl, fun k u hu => hc k u ?_⟩
  simp only [ints, List.map_take, List.getElem?_take] at hu ⊢
  split at hu
  · exact hu
  · cases hu
theorem rdDrop {w : World} {b o h : Nat} {xs : List Int} (hr : Rd w (some ⟨b, o, none⟩) (ints xs)) : Rd w (some ⟨b, o + h, none⟩) (ints (xs.drop h)) := by
  intro h0
  obtain ⟨b', o', e, hl, hc⟩ := hr (by simp [ints] at h0 ⊢; omega)
  cases e
  refine ⟨b, o + h, rfl, hl, fun k u hu => ?_⟩
  simp only [ints, List.map_drop, List.getElem?_drop] at hu
  have := hc (h + k) u (by simpa [ints] using hu)
  rwa [← Nat.add_assoc] at this
/-- what FnStoreRun says -/
theorem run_law (s r l : Int) (xs : List Int) (h : Nat) : stAll s r l xs = none ∨ (∃ v a : Int, stAll s r l xs = some v ∧ stAll s r l (xs.take h) = some a ∧ stAll s r a (xs.drop h) = some v ∧ v = l + xs.sum ∧ (0 ≤ v ∧ v ≤ s) ∧ s ≤ 999 ∧ (0 ≤ l ∧ l ≤ s) ∧ xs.length ≤ 12 ∧ ∀ j, j < xs.length → -1000000 ≤ xs.getD j 0 ∧ xs.getD j 0 ≤ 1000000) := by
  cases hv : stAll s r l xs with
  | none => exact .inl rfl
  | some v =>
    right
    have hS : (stAll s r l xs).isSome = true := by rw [hv]; rfl
    obtain ⟨hb, hl, he⟩ := stAll_each hS
    have h1 := hv
    rw [stAll_ok hb hl] at h1
    have hbo := bat_of hb
    have h2 : stRun s r l (xs.take h ++ xs.drop h) = some v := by rw [List.take_append_drop]; exact h1
    rw [stRun_app] at h2
    cases ha : stRun s r l (xs.take h) with
    | none => rw [ha] at h2; cases h2
    | some a =>
      rw [ha] at h2
      have hin := stRun_in hbo.2.2.1 hbo.2.2.2 ha
      have hba : batB s r a = true := by
        simp only [batB, Bool.and_eq_true, inB_iff]; exact ⟨hbo.1, hbo.2.1, hin⟩
      refine ⟨v, a, rfl, ?_, ?_, stRun_level h1, stRun_in hbo.2.2.1 hbo.2.2.2 h1, hbo.1.2, hbo.2.2, hl, fun j hj => by have := he j hj; omega⟩
      · rw [stAll_ok hb (by simp; omega)]; exact ha
      · rw [stAll_ok hba (by simp; omega)]; exact h2
end Go.Proofs.YtjlbhpogmjjbiaaDoor
namespace Go.Proofs.YtjlbhpogmjjbiaaDoor.lSR
open Go.RowKit Go.Proofs.YtjlbhpogmjjbiaaDoor

set_option maxHeartbeats 2000000 in
theorem walk (w : World) (A : Option Addr) (m c : Nat) (hc : m ≤ c) (hm : m ≤ maxLen) (hA : RdB w A m) :
    Calls Tryd.prog 4 #[.slice A m c] w fun e w' => e = .returned (.bool true) ∧ Below w.heap.size w w' := by
  unfold maxLen at hm
  by_cases hs : m ≤ 1048576
  case neg =>
    go_enter Tryd.func4, Tryd.ntmps4
    go_wp2_with fail
    go_ret
    exact ⟨rfl, Below.refl _ _⟩
  have HA := Lib.hid hA; clear hA
  have hb : Below w.heap.size w w := Below.refl _ _
  go_enter Tryd.func4, Tryd.ntmps4
  go_wp2_with fail
  refine (dDrawStoreRun A m c w hc hs HA.out).mono ?_
  rintro e w1 ⟨s, r, l, xs, B, d, rfl, hl, hF, ho, hbn⟩
  replace hb := seqB hb hbn
  clear hbn
  have hn : xs.length ≤ 1048576 := by omega
  have hbox := new_box w1 (.cells #[.int .i64 s, .int .i64 r, .int .i64 l] 24)
  replace hb := allocB hb (.cells #[.int .i64 s, .int .i64 r, .int .i64 l] 24)
  replace ho := ho.below (allocB (Below.refl _ _) (.cells #[.int .i64 s, .int .i64 r, .int .i64 l] 24))
  go_wp2_with fail
  refine (implSR _ _ _ s r l xs _ rfl hn ho.rd).mono ?_
  rintro e w2 ⟨rfl, hbn⟩
  replace hb := seqB hb hbn
  replace ho := ho.below hbn
  replace hbox := be_box hbox hbn
  clear hbn
  (try clear g0 g1 g2)
  obtain ⟨g0, g1, g2⟩ := cells3 hbox.out
  obtain ⟨h, hh, hle⟩ : ∃ h : Nat, (xs.length : Int) / 2 = (h : Int) ∧ h ≤ xs.length := ⟨xs.length / 2, by omega, by omega⟩
  have HH := Lib.hid hh; clear hh
  have HK := Lib.hid (run_law s r l xs h)
  generalize hV : stAll s r l xs = V at *
  have HV := Lib.hid hV; clear hV
  have hne : (stLev V != stLev V) = false := by simp
  have hne2 : (V.isSome != V.isSome) = false := by simp
  go_wp2_with fail
  refine (specSR _ _ _ s r l xs _ rfl hn ho.rd).mono ?_
  rintro e w3 ⟨rfl, hbn⟩
  replace hb := seqB hb hbn
  replace ho := ho.below hbn
  replace hbox := be_box hbox hbn
  clear hbn
  (try clear g0 g1 g2)
  obtain ⟨g0, g1, g2⟩ := cells3 hbox.out
  rw [HV.out]
  rcases HK.out with rfl | ⟨v, a, rfl, e1, e2, e3, ⟨v0, v1⟩, s9, ⟨l0, l1⟩, h12, hel⟩
  · skip
    have q1 : stLev none = -1 := rfl
    have q2 : (none : Option Int).isSome = false := rfl
    go_wp2_with fail
    refine (aliveC _).mono ?_
    rintro e w4 ⟨rfl, hbn⟩
    replace hb := seqB hb hbn
    replace ho := ho.below hbn
    replace hbox := be_box hbox hbn
    clear hbn
    go_wp2_with fail
    go_ret
    exact ⟨rfl, hb⟩
  · skip
    have q1 : stLev (some v) = v := rfl
    have q2 : (some v).isSome = true := rfl
    clear HK hne hne2 HV
    have E1 := Lib.hid e1; have E2 := Lib.hid e2; have E3 := Lib.hid e3; have EL := Lib.hid hel
    clear e1 e2 e3 hel
    obtain ⟨hF1, ⟨rfl, rfl⟩ | ⟨g, rfl⟩⟩ := hF
    · skip
      obtain rfl : xs = [] := List.eq_nil_of_length_eq_zero (by omega)
      obtain rfl : h = 0 := by simpa using hle
      replace E1 : Hid (stAll s r l [] = some a) := E1
      replace E2 : Hid (stAll s r a [] = some v) := E2
      have hh := HH.out
      go_wp2_with fail
      clear hh
      replace hb := drew1B hb
      replace ho : Own w3.drew _ _ _ _ _ _ := ho
      replace hbox : Hid (w3.drew.heap[_]? = _) := hbox
      go_region_held3 (fun W => W.cell? ⟨w1.heap.size, 0, none⟩ = some (.int .i64 s) ∧ W.cell? ⟨w1.heap.size, 1, none⟩ = some (.int .i64 r) ∧ W.cell? ⟨w1.heap.size, 2, none⟩ = some (.int .i64 l)) (first | go_keep | (go_split_ands; refine ⟨?_, ?_, ?_⟩ <;> go_keep) | (go_split_ands; refine ⟨?_, ?_, ?_⟩ <;> exact cell_keep (by assumption) hbn)) (first | (go_at_call 13; refine (implSR _ _ _ s r l ([] : List Int) _ (by first | omega | (simp; done) | (simp; omega)) (by first | omega | (simp; done) | (simp; omega)) (by exact Rd.nil)).mono ?_; rintro e wa ⟨rfl, hbn⟩))
      clear g0 g1 g2
      replace hb := seqB hb hbn
      replace ho := ho.below hbn
      replace hbox := be_box hbox hbn
      clear hbn
      obtain ⟨g0, g1, g2⟩ := cells3 hbox.out
      rw [E1.out]
      have p1 : stLev (some a) = a := rfl
      have p2 : (some a).isSome = true := rfl
      go_wp2_with fail
      replace hb := drew1B hb
      replace ho : Own wa.drew _ _ _ _ _ _ := ho
      replace hbox : Hid (wa.drew.heap[_]? = _) := hbox
      go_region_held3 (fun W => W.cell? ⟨w1.heap.size, 0, none⟩ = some (.int .i64 s) ∧ W.cell? ⟨w1.heap.size, 1, none⟩ = some (.int .i64 r) ∧ W.cell? ⟨w1.heap.size, 2, none⟩ = some (.int .i64 l)) (first | go_keep | (go_split_ands; refine ⟨?_, ?_, ?_⟩ <;> go_keep) | (go_split_ands; refine ⟨?_, ?_, ?_⟩ <;> exact cell_keep (by assumption) hbn)) (first | (go_at_call 13; refine (implSR _ _ _ s r a ([] : List Int) _ (by first | (simp; done) | (simp; omega)) (by first | omega | (simp; done) | (simp; omega)) (by exact Rd.nil)).mono ?_; rintro e wb ⟨rfl, hbn⟩))
      clear g0 g1 g2
      replace hb := seqB hb hbn
      replace ho := ho.below hbn
      replace hbox := be_box hbox hbn
      clear hbn
      obtain ⟨g0, g1, g2⟩ := cells3 hbox.out
      rw [E2.out]
      have r1 : (v == l + ([] : List Int).sum) = true := by simp [E3.out]
      have hlv : 0 ≤ l + ([] : List Int).sum ∧ l + ([] : List Int).sum ≤ 999 := by have := E3.out; omega
      have hvv : (v == v) = true := by simp
      generalize hSum : ([] : List Int).sum = S at *
      have HSum := Lib.hid hSum; clear hSum
      have d1 : decide (0 ≤ v) = true := by simpa using v0
      have d2 : decide (v ≤ s) = true := by simpa using v1
      go_wp2_with fail
      have wr1 : IntKind.i64.wrap (l + S) = l + S := IntWalk.i64_in _ (by omega)
      go_quiet ((go_at_call 15; exact quiet_left (sumOf_eq _ _ _ ([] : List Int) S HSum.out _ rfl (by omega) (by exact ho.rd) EL.out)))
      go_wp2_with fail
      go_ret
      exact ⟨rfl, drewNB hb _⟩
    · skip
      have hi0 : (0 : Int) ≤ (h : Int) := Int.natCast_nonneg _
      have hi1 : (h : Int) ≤ (xs.length : Int) := by omega
      have hi2 : (xs.length : Int) ≤ (d : Int) := by omega
      have hi3 : (h : Int) ≤ (d : Int) := by omega
      by_cases hdh : d = h
      · skip
        subst hdh
        have hh := HH.out
        go_wp2_with fail
        clear hh
        replace hb := drew1B hb
        replace ho : Own w3.drew _ _ _ _ _ _ := ho
        replace hbox : Hid (w3.drew.heap[_]? = _) := hbox
        go_region_held3 (fun W => W.cell? ⟨w1.heap.size, 0, none⟩ = some (.int .i64 s) ∧ W.cell? ⟨w1.heap.size, 1, none⟩ = some (.int .i64 r) ∧ W.cell? ⟨w1.heap.size, 2, none⟩ = some (.int .i64 l)) (first | go_keep | (go_split_ands; refine ⟨?_, ?_, ?_⟩ <;> go_keep) | (go_split_ands; refine ⟨?_, ?_, ?_⟩ <;> exact cell_keep (by assumption) hbn)) (first | (go_at_call 13; refine (implSR _ _ _ s r l (xs.take d) _ (by first | omega | (simp; done) | (simp; omega)) (by first | omega | (simp; done) | (simp; omega)) (by exact rdTake ho.rd)).mono ?_; rintro e wa ⟨rfl, hbn⟩))
        clear g0 g1 g2
        replace hb := seqB hb hbn
        replace ho := ho.below hbn
        replace hbox := be_box hbox hbn
        clear hbn
        obtain ⟨g0, g1, g2⟩ := cells3 hbox.out
        rw [E1.out]
        have p1 : stLev (some a) = a := rfl
        have p2 : (some a).isSome = true := rfl
        go_wp2_with fail
        replace hb := drew1B hb
        replace ho : Own wa.drew _ _ _ _ _ _ := ho
        replace hbox : Hid (wa.drew.heap[_]? = _) := hbox
        go_region_held3 (fun W => W.cell? ⟨w1.heap.size, 0, none⟩ = some (.int .i64 s) ∧ W.cell? ⟨w1.heap.size, 1, none⟩ = some (.int .i64 r) ∧ W.cell? ⟨w1.heap.size, 2, none⟩ = some (.int .i64 l)) (first | go_keep | (go_split_ands; refine ⟨?_, ?_, ?_⟩ <;> go_keep) | (go_split_ands; refine ⟨?_, ?_, ?_⟩ <;> exact cell_keep (by assumption) hbn)) (first | (go_at_call 13; refine (implSR _ _ _ s r a (xs.drop d) _ (by first | (simp; done) | (simp; omega)) (by first | omega | (simp; done) | (simp; omega)) (by rw [List.drop_eq_nil_of_le (by omega)]; exact Rd.nil)).mono ?_; rintro e wb ⟨rfl, hbn⟩))
        clear g0 g1 g2
        replace hb := seqB hb hbn
        replace ho := ho.below hbn
        replace hbox := be_box hbox hbn
        clear hbn
        obtain ⟨g0, g1, g2⟩ := cells3 hbox.out
        rw [E2.out]
        have r1 : (v == l + xs.sum) = true := by simp [E3.out]
        have hlv : 0 ≤ l + xs.sum ∧ l + xs.sum ≤ 999 := by have := E3.out; omega
        have hvv : (v == v) = true := by simp
        generalize hSum : xs.sum = S at *
        have HSum := Lib.hid hSum; clear hSum
        have d1 : decide (0 ≤ v) = true := by simpa using v0
        have d2 : decide (v ≤ s) = true := by simpa using v1
        go_wp2_with fail
        have wr1 : IntKind.i64.wrap (l + S) = l + S := IntWalk.i64_in _ (by omega)
        go_quiet ((go_at_call 15; exact quiet_left (sumOf_eq _ _ _ xs S HSum.out _ rfl (by omega) (by exact ho.rd) EL.out)))
        go_wp2_with fail
        go_ret
        exact ⟨rfl, drewNB hb _⟩
      · skip
        have hh := HH.out
        go_wp2_with fail
        clear hh
        replace hb := drew1B hb
        replace ho : Own w3.drew _ _ _ _ _ _ := ho
        replace hbox : Hid (w3.drew.heap[_]? = _) := hbox
        go_region_held3 (fun W => W.cell? ⟨w1.heap.size, 0, none⟩ = some (.int .i64 s) ∧ W.cell? ⟨w1.heap.size, 1, none⟩ = some (.int .i64 r) ∧ W.cell? ⟨w1.heap.size, 2, none⟩ = some (.int .i64 l)) (first | go_keep | (go_split_ands; refine ⟨?_, ?_, ?_⟩ <;> go_keep) | (go_split_ands; refine ⟨?_, ?_, ?_⟩ <;> exact cell_keep (by assumption) hbn)) (first | (go_at_call 13; refine (implSR _ _ _ s r l (xs.take h) _ (by first | omega | (simp; done) | (simp; omega)) (by first | omega | (simp; done) | (simp; omega)) (by exact rdTake ho.rd)).mono ?_; rintro e wa ⟨rfl, hbn⟩))
        clear g0 g1 g2
        replace hb := seqB hb hbn
        replace ho := ho.below hbn
        replace hbox := be_box hbox hbn
        clear hbn
        obtain ⟨g0, g1, g2⟩ := cells3 hbox.out
        rw [E1.out]
        have p1 : stLev (some a) = a := rfl
        have p2 : (some a).isSome = true := rfl
        go_wp2_with fail
        replace hb := drew1B hb
        replace ho : Own wa.drew _ _ _ _ _ _ := ho
        replace hbox : Hid (wa.drew.heap[_]? = _) := hbox
        go_region_held3 (fun W => W.cell? ⟨w1.heap.size, 0, none⟩ = some (.int .i64 s) ∧ W.cell? ⟨w1.heap.size, 1, none⟩ = some (.int .i64 r) ∧ W.cell? ⟨w1.heap.size, 2, none⟩ = some (.int .i64 l)) (first | go_keep | (go_split_ands; refine ⟨?_, ?_, ?_⟩ <;> go_keep) | (go_split_ands; refine ⟨?_, ?_, ?_⟩ <;> exact cell_keep (by assumption) hbn)) (first | (go_at_call 13; refine (implSR _ _ _ s r a (xs.drop h) _ (by first | (simp; done) | (simp; omega)) (by first | omega | (simp; done) | (simp; omega)) (by simpa using rdDrop (h := h) ho.rd)).mono ?_; rintro e wb ⟨rfl, hbn⟩))
        clear g0 g1 g2
        replace hb := seqB hb hbn
        replace ho := ho.below hbn
        replace hbox := be_box hbox hbn
        clear hbn
        obtain ⟨g0, g1, g2⟩ := cells3 hbox.out
        rw [E2.out]
        have r1 : (v == l + xs.sum) = true := by simp [E3.out]
        have hlv : 0 ≤ l + xs.sum ∧ l + xs.sum ≤ 999 := by have := E3.out; omega
        have hvv : (v == v) = true := by simp
        generalize hSum : xs.sum = S at *
        have HSum := Lib.hid hSum; clear hSum
        have d1 : decide (0 ≤ v) = true := by simpa using v0
        have d2 : decide (v ≤ s) = true := by simpa using v1
        go_wp2_with fail
        have wr1 : IntKind.i64.wrap (l + S) = l + S := IntWalk.i64_in _ (by omega)
        go_quiet ((go_at_call 15; exact quiet_left (sumOf_eq _ _ _ xs S HSum.out _ rfl (by omega) (by exact ho.rd) EL.out)))
        go_wp2_with fail
        go_ret
        exact ⟨rfl, drewNB hb _⟩
end Go.Proofs.YtjlbhpogmjjbiaaDoor.lSR
