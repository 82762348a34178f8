/- The contract of the library's BinarySearchFunc at entries. No statement is proved here. -/
import Derived.Test.YtdlphgknplomkaaLogI
namespace Go.Proofs.Ytdlphgknplomkaa
open Go.RowKit
theorem asc_at {l : List Entry} (h : Asc l) {i j : Nat} (hij : i < j) (hj : j < l.length) : lessB (eAt l i) (eAt l j) = true := by
  rw [Asc, List.pairwise_iff_getElem] at h
  rw [eAt_get (by omega), eAt_get hj]
  exact h i j (by omega) hj hij
theorem cmpIs (a b c d t u v x : Int) (z : Int) (w : World) (h : cmpE ⟨a, b, c, d⟩ ⟨t, u, v, x⟩ = z) : Calls Try.prog 22 #[.agg #[.int .i64 a, .int .i64 b, .int .i64 c, .int .i64 d], .agg #[.int .i64 t, .int .i64 u, .int .i64 v, .int .i64 x]] w fun e w' => e = .returned (.int .i64 z) ∧ Below w.heap.size w w' := by
  subst h; exact compareE ⟨a, b, c, d⟩ ⟨t, u, v, x⟩ w
set_option maxRecDepth 100000 in
set_option maxHeartbeats 4000000 in
theorem bsE (A : Option Addr) (n c : Nat) (l : List Entry) (t u v x : Int) (w : World) (hn : l.length = n) (hm : n ≤ 1048576) (hs : Asc l) (hA : Rd w A (flatEntry l)) :
    Calls Try.prog 21 #[.slice A n c, .agg #[.int .i64 t, .int .i64 u, .int .i64 v, .int .i64 x], .func (.func 22) #[] #[]] w fun e w' => ∃ (k : Nat) (f : Bool), e = .returned (.tuple #[.int .i64 k, .bool f]) ∧ k ≤ n ∧ (∀ j, j < k → lessB (eAt l j) ⟨t, u, v, x⟩ = true) ∧ (∀ j, k ≤ j → j < n → lessB (eAt l j) ⟨t, u, v, x⟩ = false) ∧ Below w.heap.size w w' := by
  have hb : Below w.heap.size w (w.alloc (.cells #[.int .i64 t, .int .i64 u, .int .i64 v, .int .i64 x] 30)) := allocB (Below.refl _ _) _
  have HA := Lib.hid hA; clear hA
  have HN := Lib.hid hn; clear hn
  have HS := Lib.hid hs; clear hs
  have BE := newboxL w (.cells #[.int .i64 t, .int .i64 u, .int .i64 v, .int .i64 x] 30)
  go_enter Try.func21, Try.ntmps21
  go_wp2_with fail
  go_loopw [9, 10] (fun i j wr => ∃ p q : Nat, p ≤ q ∧ q ≤ n ∧ i = .int .i64 p ∧ j = .int .i64 q ∧ Hid (∀ s, s < p → lessB (eAt l s) ⟨t, u, v, x⟩ = true) ∧ Hid (∀ s, q ≤ s → s < n → lessB (eAt l s) ⟨t, u, v, x⟩ = false) ∧ Hid (wr.heap[w.heap.size]? = some (.cells #[.int .i64 t, .int .i64 u, .int .i64 v, .int .i64 x] 30 (0, 0))) ∧ Below w.heap.size w wr) (fun i j _ => (intOf j).toNat - (intOf i).toNat)
  case atStart => exact ⟨0, n, Nat.zero_le _, Nat.le_refl _, rfl, rfl, fun s hs => absurd hs (by omega), fun s h1 h2 => absurd h2 (by omega), BE, hb⟩
  case round =>
    clear BE hb
    obtain ⟨p, q, hpq, hqn, rfl, rfl, HP, HQ, BE, hb⟩ := hrel
    by_cases hlt : p < q
    · obtain ⟨h, hh⟩ : ∃ h : Nat, h = (p + q) / 2 := ⟨_, rfl⟩
      have hh1 : p ≤ h := by omega
      have hh2 : h < q := by omega
      have HH : Hid (((p : Int) + (q : Int)) / 2 = (h : Int)) := by rw [Hid]; omega
      obtain ⟨b, o, rfl, hbl, hc0, hc1, hc2, hc3⟩ := HA.out.atEntry (k := h) (by rw [HN.out]; omega)
      have HGK : Hid (eAt l h = l.getD h Entry.zero) := rfl
      generalize l.getD h Entry.zero = r at *
      obtain ⟨r0, r1, r2, r3⟩ := r
      dsimp only at hc0 hc1 hc2 hc3
      clear hh
      have hpi : (p : Int) < (q : Int) := by omega
      go_wp2_with fail
      rw [HH.out]
      have f0 : ∀ i : After wr, i.wd.cell? ⟨b, o + h * 4, none⟩ = some (.int .i64 r0) := fun i => i.cell ((hb.cell (p := ⟨b, o + h * 4, none⟩) hbl).trans hc0)
      have f1 : ∀ i : After wr, i.wd.cell? ⟨b, o + h * 4 + 1, none⟩ = some (.int .i64 r1) := fun i => i.cell ((hb.cell (p := ⟨b, o + h * 4 + 1, none⟩) hbl).trans hc1)
      have f2 : ∀ i : After wr, i.wd.cell? ⟨b, o + h * 4 + 2, none⟩ = some (.int .i64 r2) := fun i => i.cell ((hb.cell (p := ⟨b, o + h * 4 + 2, none⟩) hbl).trans hc2)
      have f3 : ∀ i : After wr, i.wd.cell? ⟨b, o + h * 4 + 3, none⟩ = some (.int .i64 r3) := fun i => i.cell ((hb.cell (p := ⟨b, o + h * 4 + 3, none⟩) hbl).trans hc3)
      have q0 : ∀ i : After wr, i.wd.cell? ⟨w.heap.size, 0, none⟩ = some (.int .i64 t) := fun i => i.cell (boxcellL BE 0)
      have q1 : ∀ i : After wr, i.wd.cell? ⟨w.heap.size, 1, none⟩ = some (.int .i64 u) := fun i => i.cell (boxcellL BE 1)
      have q2 : ∀ i : After wr, i.wd.cell? ⟨w.heap.size, 2, none⟩ = some (.int .i64 v) := fun i => i.cell (boxcellL BE 2)
      have q3 : ∀ i : After wr, i.wd.cell? ⟨w.heap.size, 3, none⟩ = some (.int .i64 x) := fun i => i.cell (boxcellL BE 3)
      clear hc0 hc1 hc2 hc3
      obtain ⟨z, hz⟩ : ∃ z, cmpE ⟨r0, r1, r2, r3⟩ ⟨t, u, v, x⟩ = z := ⟨_, rfl⟩
      have hzl := cmpE_less ⟨r0, r1, r2, r3⟩ ⟨t, u, v, x⟩
      rw [hz] at hzl
      have HZ := Lib.hid hz
      clear hz
      have hh0 : (0 : Int) ≤ (h : Int) := by omega
      have hhn : (h : Int) < (n : Int) := by omega
      have hpr : ∀ s, s < h + 1 → lessB ⟨r0, r1, r2, r3⟩ ⟨t, u, v, x⟩ = true → lessB (eAt l s) ⟨t, u, v, x⟩ = true := fun s hs hl => by
        rcases Nat.lt_or_ge s h with h1 | h1
        · have h2 := asc_at HS.out h1 (by rw [HN.out]; omega)
          rw [HGK.out] at h2
          exact less_trans h2 hl
        · have : s = h := by omega
          subst this; rw [HGK.out]; exact hl
      have hqr : ∀ s, h ≤ s → s < n → lessB ⟨r0, r1, r2, r3⟩ ⟨t, u, v, x⟩ = false → lessB (eAt l s) ⟨t, u, v, x⟩ = false := fun s h1 h2 hl => by
        rcases Nat.lt_or_ge h s with h3 | h3
        · have h4 := asc_at HS.out h3 (by rw [HN.out]; omega)
          rw [HGK.out] at h4
          cases h5 : lessB (eAt l s) ⟨t, u, v, x⟩ with
          | false => rfl
          | true => have h6 := less_trans h4 h5; rw [hl] at h6; cases h6
        · have : s = h := by omega
          subst this; rw [HGK.out]; exact hl
      have HPR := Lib.hid hpr; have HQR := Lib.hid hqr; clear hpr hqr
      cases hle : lessB ⟨r0, r1, r2, r3⟩ ⟨t, u, v, x⟩ with
      | true =>
        rw [hle] at hzl
        have hz0 : z < 0 := by simpa using hzl
        refine wp_region_after (by kernel_rfl) (by kernel_rfl) ?_
        repeat (go_big_quiet_step ((go_at_call 22; exact after_call (cmpIs r0 r1 r2 r3 t u v x z _ HZ.out))))
        refine wpQuiet_nil ?_
        rintro _ ⟨i2, rfl⟩
        have hbn := i2.below
        clear f0 f1 f2 f3 q0 q1 q2 q3
        generalize i2.wd = w2 at *
        replace hb := seqB hb hbn
        replace BE := be_boxL BE hbn
        clear hbn
        go_wp2_with fail
        go_roundw
        case rel => exact ⟨h + 1, q, by omega, hqn, by go_num, rfl, fun s hs => HPR.out s hs hle, HQ, BE, hb⟩
        case measure => simp [intOf]; omega
      | false =>
        rw [hle] at hzl
        have hz0 : ¬ z < 0 := by simpa using hzl
        refine wp_region_after (by kernel_rfl) (by kernel_rfl) ?_
        repeat (go_big_quiet_step ((go_at_call 22; exact after_call (cmpIs r0 r1 r2 r3 t u v x z _ HZ.out))))
        refine wpQuiet_nil ?_
        rintro _ ⟨i2, rfl⟩
        have hbn := i2.below
        clear f0 f1 f2 f3 q0 q1 q2 q3
        generalize i2.wd = w2 at *
        replace hb := seqB hb hbn
        replace BE := be_boxL BE hbn
        clear hbn
        go_wp2_with fail
        go_roundw
        case rel => exact ⟨p, h, by omega, by omega, rfl, rfl, HP, fun s h1 h2 => HQR.out s h1 h2 hle, BE, hb⟩
        case measure => simp [intOf]; omega
    · have hpq2 : q = p := by omega
      subst hpq2
      by_cases hqn2 : q < n
      · obtain ⟨b, o, rfl, hbl, hc0, hc1, hc2, hc3⟩ := HA.out.atEntry (k := q) (by rw [HN.out]; omega)
        generalize l.getD q Entry.zero = r at *
        obtain ⟨r0, r1, r2, r3⟩ := r
        dsimp only at hc0 hc1 hc2 hc3
        have f0 : ∀ i : After wr, i.wd.cell? ⟨b, o + q * 4, none⟩ = some (.int .i64 r0) := fun i => i.cell ((hb.cell (p := ⟨b, o + q * 4, none⟩) hbl).trans hc0)
        have f1 : ∀ i : After wr, i.wd.cell? ⟨b, o + q * 4 + 1, none⟩ = some (.int .i64 r1) := fun i => i.cell ((hb.cell (p := ⟨b, o + q * 4 + 1, none⟩) hbl).trans hc1)
        have f2 : ∀ i : After wr, i.wd.cell? ⟨b, o + q * 4 + 2, none⟩ = some (.int .i64 r2) := fun i => i.cell ((hb.cell (p := ⟨b, o + q * 4 + 2, none⟩) hbl).trans hc2)
        have f3 : ∀ i : After wr, i.wd.cell? ⟨b, o + q * 4 + 3, none⟩ = some (.int .i64 r3) := fun i => i.cell ((hb.cell (p := ⟨b, o + q * 4 + 3, none⟩) hbl).trans hc3)
        have q0 : ∀ i : After wr, i.wd.cell? ⟨w.heap.size, 0, none⟩ = some (.int .i64 t) := fun i => i.cell (boxcellL BE 0)
        have q1 : ∀ i : After wr, i.wd.cell? ⟨w.heap.size, 1, none⟩ = some (.int .i64 u) := fun i => i.cell (boxcellL BE 1)
        have q2 : ∀ i : After wr, i.wd.cell? ⟨w.heap.size, 2, none⟩ = some (.int .i64 v) := fun i => i.cell (boxcellL BE 2)
        have q3 : ∀ i : After wr, i.wd.cell? ⟨w.heap.size, 3, none⟩ = some (.int .i64 x) := fun i => i.cell (boxcellL BE 3)
        clear hc0 hc1 hc2 hc3
        obtain ⟨z, hz⟩ : ∃ z, cmpE ⟨r0, r1, r2, r3⟩ ⟨t, u, v, x⟩ = z := ⟨_, rfl⟩
        have hzl := cmpE_less ⟨r0, r1, r2, r3⟩ ⟨t, u, v, x⟩
        rw [hz] at hzl
        have HZ := Lib.hid hz
        clear hz
        have hdi : decide ((q : Int) < (n : Int)) = true := by simp; omega
        have hdi2 : decide (q < n) = true := by simp; omega
        have hqi : (q : Int) < (n : Int) := by omega
        have hq0' : (0 : Int) ≤ (q : Int) := by omega
        clear hzl
        go_wp2_with fail
        refine wp_region_after (by kernel_rfl) (by kernel_rfl) ?_
        repeat (go_big_quiet_step ((go_at_call 22; exact after_call (cmpIs r0 r1 r2 r3 t u v x z _ HZ.out))))
        refine wpQuiet_nil ?_
        rintro _ ⟨i2, rfl⟩
        have hbn := i2.below
        clear f0 f1 f2 f3 q0 q1 q2 q3
        generalize i2.wd = w2 at *
        replace hb := seqB hb hbn
        replace BE := be_boxL BE hbn
        clear hbn
        go_wp2_with fail
        exact bodyPost_ret (v := .tuple #[.int .i64 q, .bool (z == 0)]) (by simp [results, Try.results21, go_sem]) rfl ⟨q, z == 0, rfl, hqn, HP.out, HQ.out, hb⟩
      · have hdi : decide ((q : Int) < (n : Int)) = false := by simp; omega
        have hdi2 : decide (q < n) = false := by simp; omega
        go_wp2_with fail
        refine wp_region_after (by kernel_rfl) (by kernel_rfl) ?_
        repeat (go_big_quiet_step (fail))
        refine wpQuiet_nil ?_
        rintro _ ⟨i2, rfl⟩
        have hbn := i2.below
        generalize i2.wd = w2 at *
        replace hb := seqB hb hbn
        go_wp2_with fail
        exact bodyPost_ret (v := .tuple #[.int .i64 q, .bool false]) (by simp [results, Try.results21, go_sem]) rfl ⟨q, false, rfl, hqn, HP.out, HQ.out, hb⟩
end Go.Proofs.Ytdlphgknplomkaa
