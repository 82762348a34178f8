/- Contracts of WorstGap, of the reference and of the program. No statement is proved here. -/
import Derived.Test.YtanogghchmjkgaaDoorImg
namespace Go.Proofs.YtanogghchmjkgaaDoor
open Go.RowKit

/-- the greatest gap of the first k samples -/
def gapTo (xs im : List Int) : Nat → Int
  | 0 => 0
  | k + 1 => if gapTo xs im k < far (xs.getD k 0) (im.getD k 0) then far (xs.getD k 0) (im.getD k 0) else gapTo xs im k
def wgap (xs : List Int) (l : List Report) : Int := if smpB xs && repB l then gapTo xs (img l xs.length) (img l xs.length).length else -1
theorem far_comm (a b : Int) : far a b = far b a := by unfold far; split <;> split <;> omega
theorem scan_val (l : List Report) (h : ∀ r ∈ l, 0 ≤ r.fValue ∧ r.fValue ≤ 999) (k : Int) : ∀ acc : Int, 0 ≤ acc → acc ≤ 999 → 0 ≤ scan l k acc ∧ scan l k acc ≤ 999 := by
  induction l with
  | nil => intro acc h0 h1; exact ⟨h0, h1⟩
  | cons r rs ih =>
    intro acc h0 h1
    rw [scan]; split
    · have := h r (by simp)
      exact ih (fun s hs => h s (by simp [hs])) _ this.1 this.2
    · exact ⟨h0, h1⟩
theorem rep_vals {l : List Report} (h : repB l = true) : ∀ r ∈ l, 0 ≤ r.fValue ∧ r.fValue ≤ 999 := by
  intro r hr
  obtain ⟨i, hi, rfl⟩ := List.getElem_of_mem hr
  have := rep_val h hi
  simpa [hi] using this
theorem img_val {l : List Report} (h : repB l = true) (many : Int) {k : Nat} (hk : k < (img l many).length) : 0 ≤ (img l many).getD k 0 ∧ (img l many).getD k 0 ≤ 999 := by
  unfold img at hk ⊢
  split at hk
  · next hc =>
    rw [if_pos hc]
    rw [imgTo_length] at hk
    have := scan_val l (rep_vals h) k 0 (by omega) (by omega)
    simpa [imgTo, hk] using this
  · simp at hk
theorem img_len {xs : List Int} {l : List Report} (hv : smpB xs = true) (hr : repB l = true) : (img l xs.length).length = xs.length := by
  have h20 := smp_len hv
  unfold img
  rcases Nat.eq_zero_or_pos xs.length with h0 | h0
  · rw [h0, hr, (inB_not _ _ _).2 (by omega)]; rfl
  · rw [hr, (inB_iff _ _ _).2 (by omega)]
    simp [imgTo_length]

set_option maxHeartbeats 1000000 in
theorem specWG (A : Option Addr) (n c : Nat) (xs : List Int) (B : Option Addr) (m d : Nat) (l : List Report) (w : World) (hn : xs.length = n) (hn2 : n ≤ 1048576) (hA : Rd w A (ints xs)) (hl : l.length = m) (hm2 : m ≤ 1048576) (hB : Rd w B (flatReport l)) :
    Calls Tryd.prog 25 #[.slice A n c, .slice B m d] w fun e w' => e = .returned (.int .i64 (wgap xs l)) ∧ Below w.heap.size w w' := by
  have HA := Lib.hid hA; clear hA
  have HB := Lib.hid hB; clear hB
  have HN := Lib.hid hn; clear hn
  have HL := Lib.hid hl; clear hl
  cases hv : smpB xs with
  | false =>
    go_enter Tryd.func25, Tryd.ntmps25
    go_wp2_with (go_at_call 21; refine (specSV _ _ _ xs _ HN.out hn2 HA.out).mono ?_; rintro e w' ⟨rfl, rfl⟩)
    go_ret
    exact ⟨ret_int (by rw [wgap, hv]; rfl), Below.refl _ _⟩
  | true =>
    cases hr : repB l with
    | false =>
      go_enter Tryd.func25, Tryd.ntmps25
      go_wp2_with (go_at_call 21; refine (specSV _ _ _ xs _ HN.out hn2 HA.out).mono ?_; rintro e w' ⟨rfl, rfl⟩)
      refine (specRV _ _ _ l _ HL.out hm2 HB.out).mono ?_
      rintro e w1 ⟨rfl, q, rfl⟩
      go_wp2_with fail
      go_ret
      exact ⟨ret_int (by rw [wgap, hv, hr]; rfl), drewB _ _⟩
    | true =>
      have HG : Hid (wgap xs l = gapTo xs (img l xs.length) n) := by rw [Hid, wgap, hv, hr, img_len hv hr, HN.out]; rfl
      have hn20 : n ≤ 20 := by have := smp_len hv; have := HN.out; omega
      go_enter Tryd.func25, Tryd.ntmps25
      go_wp2_with (go_at_call 21; refine (specSV _ _ _ xs _ HN.out hn2 HA.out).mono ?_; rintro e w' ⟨rfl, rfl⟩)
      refine (specRV _ _ _ l _ HL.out hm2 HB.out).mono ?_
      rintro e w1 ⟨rfl, q, rfl⟩
      have hb1 := drewB w q
      generalize w.drewN q = w1 at *
      go_wp2_with fail
      refine (specIO _ _ _ l _ _ HL.out hm2 (HB.out.below hb1)).mono ?_
      rintro e w2 ⟨C, c', rfl, hown, hb2⟩
      have hlen : (img l (n : Int)).length = n := by have := img_len hv hr; rwa [HN.out] at this
      rw [hlen] at hown ⊢
      have HI : Hid (∀ k, k < n → 0 ≤ (img l (n : Int)).getD k 0 ∧ (img l (n : Int)).getD k 0 ≤ 999) := fun k hk => img_val hr n (by rw [hlen]; exact hk)
      have HLn := Lib.hid hlen
      have HR := Lib.hid hown.rd
      have hbw := seqB hb1 hb2
      have hG2 := HG.out
      rw [HN.out] at hG2
      have HG2 := Lib.hid hG2
      clear hlen hG2 HG hb1 hb2 hown
      have HV := Lib.hid hv
      generalize img l (n : Int) = im at *
      go_wp2_with fail
      go_loopw [5, 7] (fun g i wr => ∃ k : Nat, k ≤ n ∧ i = .int .i64 k ∧ g = .int .i64 (gapTo xs im k) ∧ Hid (∃ q, wr = w2.drewN q)) (fun _ i _ => n - (intOf i).toNat)
      case atStart => exact ⟨0, by omega, rfl, rfl, 0, rfl⟩
      case round =>
        obtain ⟨k, hk, rfl, rfl, hq⟩ := hrel
        by_cases hlt : k < n
        · have hbr : Below w2.heap.size w2 wr := by obtain ⟨q, rfl⟩ := hq.out; exact drewB _ _
          obtain ⟨b, o, rfl, _, hc1⟩ := ((HA.out.below hbw).below hbr).int (k := k) (by have := HN.out; omega)
          obtain ⟨b2, o2, rfl, _, hc2⟩ := (HR.out.below hbr).int (k := k) (by have := HLn.out; omega)
          obtain ⟨hx0, hx1⟩ := smp_val HV.out (k := k) (by have := HN.out; omega)
          obtain ⟨hy0, hy1⟩ := HI.out k hlt
          have HS : Hid (gapTo xs im (k + 1) = if gapTo xs im k < far (xs.getD k 0) (im.getD k 0) then far (xs.getD k 0) (im.getD k 0) else gapTo xs im k) := rfl
          clear hbr
          generalize xs.getD k 0 = x at *
          generalize im.getD k 0 = y at *
          generalize gapTo xs im k = g at *
          by_cases hgf : g < far x y
          · go_wp2_with fail
            go_quiet ((go_at_call 35; exact quiet_left (specFar _ _ _ (by omega) (by omega) (by omega) (by omega))))
            go_wp2_with fail
            go_roundw
            case rel => exact ⟨k + 1, by omega, by go_num, by rw [HS.out, if_pos hgf], drewN_more hq⟩
            case measure => simp [intOf]; omega
          · go_wp2_with fail
            go_quiet ((go_at_call 35; exact quiet_left (specFar _ _ _ (by omega) (by omega) (by omega) (by omega))))
            go_wp2_with fail
            go_roundw
            case rel => exact ⟨k + 1, by omega, by go_num, by rw [HS.out, if_neg (by omega)], drewN_more hq⟩
            case measure => simp [intOf]; omega
        · go_wp2_with fail
          go_ret
          have hkn : k = n := by omega
          subst hkn
          obtain ⟨q, rfl⟩ := hq.out
          exact ⟨ret_int HG2.out.symm, seqB hbw (drewB _ _)⟩

set_option maxHeartbeats 1000000 in
theorem implWG (A : Option Addr) (n c : Nat) (xs : List Int) (B : Option Addr) (m d : Nat) (l : List Report) (w : World) (hn : xs.length = n) (hn2 : n ≤ 1048576) (hA : Rd w A (ints xs)) (hl : l.length = m) (hm2 : m ≤ 1048576) (hB : Rd w B (flatReport l)) :
    Calls Tryd.prog 17 #[.slice A n c, .slice B m d] w fun e w' => e = .returned (.int .i64 (wgap xs l)) ∧ Below w.heap.size w w' := by
  have HA := Lib.hid hA; clear hA
  have HB := Lib.hid hB; clear hB
  have HN := Lib.hid hn; clear hn
  have HL := Lib.hid hl; clear hl
  cases hv : smpB xs with
  | false =>
    go_enter Tryd.func17, Tryd.ntmps17
    go_wp2_with (go_at_call 20; refine (implSV _ _ _ xs _ HN.out hn2 HA.out).mono ?_; rintro e w' ⟨rfl, rfl⟩)
    go_ret
    exact ⟨ret_int (by rw [wgap, hv]; rfl), Below.refl _ _⟩
  | true =>
    cases hr : repB l with
    | false =>
      go_enter Tryd.func17, Tryd.ntmps17
      go_wp2_with (go_at_call 20; refine (implSV _ _ _ xs _ HN.out hn2 HA.out).mono ?_; rintro e w' ⟨rfl, rfl⟩)
      refine (implRV _ _ _ l _ HL.out hm2 HB.out).mono ?_
      rintro e w1 ⟨rfl, hb1⟩
      go_wp2_with fail
      go_ret
      exact ⟨ret_int (by rw [wgap, hv, hr]; rfl), hb1⟩
    | true =>
      have HG : Hid (wgap xs l = gapTo xs (img l xs.length) n) := by rw [Hid, wgap, hv, hr, img_len hv hr, HN.out]; rfl
      have hn20 : n ≤ 20 := by have := smp_len hv; have := HN.out; omega
      go_enter Tryd.func17, Tryd.ntmps17
      go_wp2_with (go_at_call 20; refine (implSV _ _ _ xs _ HN.out hn2 HA.out).mono ?_; rintro e w' ⟨rfl, rfl⟩)
      refine (implRV _ _ _ l _ HL.out hm2 HB.out).mono ?_
      rintro e w1 ⟨rfl, hb1⟩
      go_wp2_with fail
      refine (implIO _ _ _ l _ _ HL.out hm2 (HB.out.below hb1)).mono ?_
      rintro e w2 ⟨C, c', rfl, hown, hb2⟩
      have hlen : (img l (n : Int)).length = n := by have := img_len hv hr; rwa [HN.out] at this
      rw [hlen] at hown ⊢
      have HI : Hid (∀ k, k < n → 0 ≤ (img l (n : Int)).getD k 0 ∧ (img l (n : Int)).getD k 0 ≤ 999) := fun k hk => img_val hr n (by rw [hlen]; exact hk)
      have HLn := Lib.hid hlen
      have HR := Lib.hid hown.rd
      have hbw := seqB hb1 hb2
      have hG2 := HG.out
      rw [HN.out] at hG2
      have HG2 := Lib.hid hG2
      clear hlen hG2 HG hb1 hb2 hown
      have HV := Lib.hid hv
      generalize img l (n : Int) = im at *
      go_wp2_with fail
      go_loop [5, 21] (fun g i => ∃ k : Nat, k ≤ n ∧ i = .int .i64 k ∧ g = .int .i64 (gapTo xs im k)) (fun _ i => n - (intOf i).toNat)
      case atStart => exact ⟨0, by omega, rfl, rfl⟩
      case round =>
        obtain ⟨k, hk, rfl, rfl⟩ := hrel
        by_cases hlt : k < n
        · obtain ⟨b, o, rfl, _, hc1⟩ := (HA.out.below hbw).int (k := k) (by have := HN.out; omega)
          obtain ⟨b2, o2, rfl, _, hc2⟩ := HR.out.int (k := k) (by have := HLn.out; omega)
          obtain ⟨hx0, hx1⟩ := smp_val HV.out (k := k) (by have := HN.out; omega)
          obtain ⟨hy0, hy1⟩ := HI.out k hlt
          have HS : Hid (gapTo xs im (k + 1) = if gapTo xs im k < far (im.getD k 0) (xs.getD k 0) then far (im.getD k 0) (xs.getD k 0) else gapTo xs im k) := by rw [Hid, far_comm]; rfl
          generalize xs.getD k 0 = x at *
          generalize im.getD k 0 = y at *
          generalize gapTo xs im k = g at *
          by_cases hgf : g < far y x
          · go_wp2_with (go_at_call 33; refine (implFar _ _ _ (by omega) (by omega) (by omega) (by omega)).mono ?_; rintro e w' ⟨rfl, rfl⟩)
            go_round
            case rel => exact ⟨k + 1, by omega, by go_num, by rw [HS.out, if_pos hgf]⟩
            case measure => simp [intOf]; omega
          · go_wp2_with (go_at_call 33; refine (implFar _ _ _ (by omega) (by omega) (by omega) (by omega)).mono ?_; rintro e w' ⟨rfl, rfl⟩)
            go_round
            case rel => exact ⟨k + 1, by omega, by go_num, by rw [HS.out, if_neg (by omega)]⟩
            case measure => simp [intOf]; omega
        · go_wp2_with fail
          go_ret
          have hkn : k = n := by omega
          subst hkn
          exact ⟨ret_int HG2.out.symm, hbw⟩
end Go.Proofs.YtanogghchmjkgaaDoor
