/- The walk of the library's symMerge at elements of k cells: the general case. No statement is proved here. -/
import Derived.Test.YtdlphgknplomkaaSymX
namespace Go.Proofs.Ytdlphgknplomkaa
open Go.Shelf Go.RowKit Go.Lib Go.Sort
variable {P : Program} {α : Type} [Inhabited α]
theorem sorted_congr {lt : α → α → Bool} {a b : Nat} {d d' : Array α} (hs : SortedIn lt a b d) (h : ∀ i, a ≤ i → i < b → d'[i]! = d[i]!) : SortedIn lt a b d' := fun i j hi hij hj => by
  rw [h i hi (by omega), h j (by omega) hj]; exact hs i j hi hij hj

set_option maxHeartbeats 16000000 in
set_option maxRecDepth 1000000 in
theorem symW3 {k : Nat} (L : SymP P k) (enc : α → List Value) (cf : α → α → Int) (hO : SWO (ltOf cf)) (g : Nat) (cb : Array Value) (blk off cap a m b : Nat) (d0 d : Array α) (w0 w : World)
    (eg : ∀ args w, (callFunc g args).run P w = .ok (.enter g args) w) (hcmp : CmpLays P g cb enc k cf blk off d0.size w0)
    (R : RowK enc k w0 blk off d0) (hs : d0.size = d.size) (S : SWK enc k w0 blk off d w) (ham : a < m) (hmb : m < b) (hb : b ≤ d.size) (hsz : d.size < 2305843009213693952) (h1 : SortedIn (ltOf cf) a m d) (h2 : SortedIn (ltOf cf) m b d) (hma1 : a + 1 < m) (hb1 : m + 1 < b)
    (IH : ∀ (a' m' b' : Nat) (x y z : Int) (sz : Nat) (d' : Array α) (w' : World), b' ≤ b → b' - a' < b - a → x = a' → y = m' → z = b' → sz = d'.size → d0.size = d'.size → SWK enc k w0 blk off d' w' → a' < m' → m' < b' → SortedIn (ltOf cf) a' m' d' → SortedIn (ltOf cf) m' b' d' →
      Calls P 45 #[.slice (some ⟨blk, off, none⟩) sz cap, .int .i64 x, .int .i64 y, .int .i64 z, .func (.func g) #[] cb] w' (SymR (ltOf cf) enc k w0 blk off a' b' d')) :
    Calls P 45 #[.slice (some ⟨blk, off, none⟩) d.size cap, .int .i64 a, .int .i64 m, .int .i64 b, .func (.func g) #[] cb] w (SymR (ltOf cf) enc k w0 blk off a b d) := by
  have mixed := L.mixed; have t0 := L.t0; have a0 := L.a0; have z0 := L.z0; have v0 := L.v0; have t3 := L.t3; have a3 := L.a3; have z3 := L.z3; have v3 := L.v3; have t4 := L.t4; have a4 := L.a4; have z4 := L.z4; have v4 := L.v4; have tS := L.tS; have aS := L.aS; have zS := L.zS; have vS := L.vS; have aE := L.aE; have zE := L.zE; have tF := L.tF; have aF := L.aF; have zF := L.zF; have vF := L.vF; have tU := L.tU; have aU := L.aU; have zU := L.zU; have vU := L.vU
  have S0 : Aside (SWK enc k w0 blk off d w) := S
  have HC : Aside _ := hcmp
  have HO := Lib.hid hO; have H1 := Lib.hid h1; have H2 := Lib.hid h2; have HIH := Lib.hid IH
  clear S hcmp hO h1 h2 IH
  have ero : ∀ args w, (callFunc 47 args).run P w = .ok (.enter 47 args) w := enters_of L.fro (by kernel_rfl) rfl
  have esy : ∀ args w, (callFunc 45 args).run P w = .ok (.enter 45 args) w := enters_of L.fsy (by kernel_rfl) rfl
  have hma : ((m : Int) - (a : Int) == 1) = false := by simp; omega
  have hbm : ((b : Int) - (m : Int) == 1) = false := by simp; omega
  obtain ⟨mid, hmid⟩ : ∃ mid : Nat, mid = (a + b) / 2 := ⟨_, rfl⟩
  have hm1 : 2 * mid ≤ a + b := by omega
  have hm2 : a + b ≤ 2 * mid + 1 := by omega
  have hmz : ((a : Int) + (b : Int)) / 2 = (mid : Int) := by omega
  clear hmid
  by_cases hmm : mid < m
  · skip
    obtain ⟨lo, hlo⟩ : ∃ lo : Nat, lo = mid + m - b := ⟨_, rfl⟩
    obtain ⟨hi, hhi⟩ : ∃ hi : Nat, hi = mid := ⟨_, rfl⟩
    have HLH : Hid ((mid < m ∧ lo = mid + m - b ∧ hi = mid) ∨ (m ≤ mid ∧ lo = a ∧ hi = m)) := .inl ⟨hmm, hlo, hhi⟩
    have hl1 : lo + b ≤ mid + m := by omega
    have hl2 : mid + m ≤ lo + b := by omega
    have hi1 : hi ≤ mid := by omega
    have hi2 : mid ≤ hi := by omega
    have hmmz : (mid : Int) < (m : Int) := by omega
    clear hlo hhi
    have rr1 : IntKind.i64.wrap ((mid : Int) + (m : Int) - (b : Int)) = (mid : Int) + (m : Int) - (b : Int) := by rw [IntKind.wrap_i64]; omega
    have rr2 : IntKind.i64.wrap ((mid : Int) + (m : Int) - 1) = (mid : Int) + (m : Int) - 1 := by rw [IntKind.wrap_i64]; omega
    have rr3 : IntKind.i64.wrap ((mid : Int) + (m : Int)) = (mid : Int) + (m : Int) := by rw [IntKind.wrap_i64]; omega
    go_enter L.fsy, Try.ntmps45
    go_wp2
    clear hma hbm hmmz
    go_loopg [20, 21] (hi - lo) (fun kx s20 s21 wr => ∃ (s r : Nat) (x y : Int), s20 = .int .i64 x ∧ s21 = .int .i64 y ∧ x = s ∧ y = r ∧ lo ≤ s ∧ s ≤ r ∧ r ≤ hi ∧ r - s ≤ kx ∧ Hid (s = lo ∨ ltOf cf d[mid + m - s]! d[s - 1]! = false) ∧ Hid (r = hi ∨ ltOf cf d[mid + m - 1 - r]! d[r]! = true) ∧ Aside (SWK enc k w0 blk off d wr))
    case atStart => exact ⟨lo, hi, _, _, rfl, rfl, by omega, by omega, Nat.le_refl _, by omega, Nat.le_refl _, Nat.le_refl _, .inl rfl, .inl rfl, S0⟩
    case round =>
      clear S0
      obtain ⟨s, r, x, y, rfl, rfl, rfl, rfl, hls, hsr, hrh, hkx, HI, HJ, S1⟩ := hrel
      by_cases hlt : s < r
      · skip
        obtain ⟨h, hh⟩ : ∃ h : Nat, h = (s + r) / 2 := ⟨_, rfl⟩
        have hh1 : s ≤ h := by omega
        have hh2 : h < r := by omega
        have hhz : ((s : Int) + (r : Int)) / 2 = (h : Int) := by omega
        clear hh
        have hltz : (s : Int) < (r : Int) := by omega
        obtain ⟨pc, hpc⟩ : ∃ pc : Nat, pc = mid + m - 1 - h := ⟨_, rfl⟩
        have HPC := Lib.hid hpc
        have hpl : pc < b := by omega
        have hpz : (mid : Int) + (m : Int) - 1 - (h : Int) = (pc : Int) := by omega
        have hpw : IntKind.i64.wrap ((mid : Int) + (m : Int) - 1 - (h : Int)) = (pc : Int) := by rw [IntKind.wrap_i64]; omega
        clear hpc
        cases hL : ltOf cf d[pc]! d[h]! with
        | true =>
          have ea5 : ((pc : Int)).toNat = pc := by omega
          have pa5 : (0 : Int) ≤ (pc : Int) := by omega
          have ba5 : (pc : Int) < (d.size : Int) := by omega
          have ra5 : IntKind.i64.wrap ((pc : Int)) = (pc : Int) := by rw [IntKind.wrap_i64]; omega
          have ec5 : ((h : Int)).toNat = h := by omega
          have pc5 : (0 : Int) ≤ (h : Int) := by omega
          have bc5 : (h : Int) < (d.size : Int) := by omega
          have rc5 : IntKind.i64.wrap ((h : Int)) = (h : Int) := by rw [IntKind.wrap_i64]; omega
          obtain ⟨x5, hx5⟩ : ∃ x, x = d[pc]! := ⟨_, rfl⟩
          obtain ⟨y5, hy5⟩ : ∃ x, x = d[h]! := ⟨_, rfl⟩
          have l5a := S1.out.ld R (by omega) P (pc) (by omega)
          have l5b := S1.out.ld R (by omega) P (h) (by omega)
          rw [← hx5] at l5a
          rw [← hy5] at l5b
          have hc5 := S1.out.cmp HC.out (by omega) x5 y5
          have hv5 : cf x5 y5 < 0 := by rw [hx5, hy5]; exact of_decide_eq_true hL
          have hd5 : decide (cf x5 y5 < 0) = true := decide_eq_true hv5
          have HL := Lib.hid hL
          clear hL hx5 hy5
          go_wp2_with fail
          go_quiet_grown (first | (go_at_fn g; refine Calls.grown_of (hc5 _ _)))
          have S2 : Aside (SWK enc k w0 blk off d (grow (wr.drewN nq) osq)) := S1.out.grown nq osq
          clear l5a l5b hc5 S1
          generalize grow (wr.drewN nq) osq = w2 at S2 ⊢
          clear nq osq
          go_wp2
          go_roundg (h - s)
          case measure => omega
          case rel => exact ⟨s, h, _, _, rfl, rfl, rfl, rfl, by omega, by omega, by omega, Nat.le_refl _, HI, .inr (by rw [← HPC.out]; exact HL.out), S2⟩
        | false =>
          have ea6 : ((pc : Int)).toNat = pc := by omega
          have pa6 : (0 : Int) ≤ (pc : Int) := by omega
          have ba6 : (pc : Int) < (d.size : Int) := by omega
          have ra6 : IntKind.i64.wrap ((pc : Int)) = (pc : Int) := by rw [IntKind.wrap_i64]; omega
          have ec6 : ((h : Int)).toNat = h := by omega
          have pc6 : (0 : Int) ≤ (h : Int) := by omega
          have bc6 : (h : Int) < (d.size : Int) := by omega
          have rc6 : IntKind.i64.wrap ((h : Int)) = (h : Int) := by rw [IntKind.wrap_i64]; omega
          obtain ⟨x6, hx6⟩ : ∃ x, x = d[pc]! := ⟨_, rfl⟩
          obtain ⟨y6, hy6⟩ : ∃ x, x = d[h]! := ⟨_, rfl⟩
          have l6a := S1.out.ld R (by omega) P (pc) (by omega)
          have l6b := S1.out.ld R (by omega) P (h) (by omega)
          rw [← hx6] at l6a
          rw [← hy6] at l6b
          have hc6 := S1.out.cmp HC.out (by omega) x6 y6
          have hv6 : ¬ cf x6 y6 < 0 := by rw [hx6, hy6]; exact of_decide_eq_false hL
          have hd6 : decide (cf x6 y6 < 0) = false := decide_eq_false hv6
          have HL := Lib.hid hL
          clear hL hx6 hy6
          go_wp2_with fail
          go_quiet_grown (first | (go_at_fn g; refine Calls.grown_of (hc6 _ _)))
          have S2 : Aside (SWK enc k w0 blk off d (grow (wr.drewN nq) osq)) := S1.out.grown nq osq
          clear l6a l6b hc6 S1
          generalize grow (wr.drewN nq) osq = w2 at S2 ⊢
          clear nq osq
          go_wp2
          go_roundg (r - (h + 1))
          case measure => omega
          case rel => exact ⟨h + 1, r, _, _, rfl, rfl, by go_num, rfl, by omega, by omega, by omega, Nat.le_refl _, .inr (by rw [Nat.add_sub_cancel, show mid + m - (h + 1) = mid + m - 1 - h by omega, ← HPC.out]; exact HL.out), HJ, S2⟩
      · skip
        obtain rfl : r = s := by omega
        have hltz : ¬ (r : Int) < (r : Int) := by omega
        have HCUT : Hid (Cut (ltOf cf) lo hi (mid + m) r d) := ⟨hls, hrh, HI.out, HJ.out⟩
        obtain ⟨ee, hee⟩ : ∃ ee : Nat, ee = mid + m - r := ⟨_, rfl⟩
        have HEE := Lib.hid hee
        have hez : (mid : Int) + (m : Int) - (r : Int) = (ee : Int) := by omega
        have h3 : ee + r ≤ mid + m := by omega
        have h4 : mid + m ≤ ee + r := by omega
        have har : a ≤ r := by omega
        have hrm : r ≤ m := by omega
        have hrd : r ≤ mid := by omega
        have heb : ee ≤ b := by omega
        have hae : a < mid := by omega
        have hmidb : mid < b := by omega
        clear hee HI HJ hlt hsr hkx hls hrh hl1 hl2 hi1 hi2 rr1 rr2 rr3
        have CUT : ∀ d1 : Array α, (∀ q, d1[q]! = rotG r m ee (fun q => d[q]!) q) → SortedIn (ltOf cf) a r d1 ∧ SortedIn (ltOf cf) r mid d1 ∧ SortedIn (ltOf cf) mid ee d1 ∧ SortedIn (ltOf cf) ee b d1 ∧ ∀ x y, a ≤ x → x < mid → mid ≤ y → y < b → ltOf cf d1[y]! d1[x]! = false := fun d1 hg => by rw [HEE.out] at hg ⊢; exact sym_cut HO.out ham hmb hm1 hm2 HLH.out HCUT.out H1.out H2.out hg
        have HCC := Lib.hid CUT; clear CUT HCUT HLH
        rcases Nat.lt_or_ge r m with hc1 | hc1
        · skip
          have z1 : (r : Int) < (m : Int) := by omega
          have z3 : (mid : Int) < (ee : Int) := by omega
          rcases Nat.lt_or_ge m ee with hc2 | hc2
          · skip
            have z2 : (m : Int) < (ee : Int) := by omega
            have z4 : (r : Int) < (mid : Int) := by omega
            rcases Nat.lt_or_ge a r with hc3 | hc3
            · skip
              have z5 : (a : Int) < (r : Int) := by omega
              rcases Nat.lt_or_ge ee b with hc4 | hc4
              · skip
                have z6 : (ee : Int) < (b : Int) := by omega
                go_wp2_with (go_at_fn 47; refine (rotZ L enc g cb blk off cap r m ee d.size _ _ _ d0 d w0 _ R hs S1.out (by omega) (by omega) (by omega) rfl (by omega) (by omega) (by omega) (by omega)).mono ?_; rintro e9 w2 ⟨rfl, d1, HROT, S1b⟩)
                have HP1 : Hid (PermIn a b d d1) := permIn_mono d d1 r ee a b (by omega) (by omega) hb HROT.1
                obtain ⟨A1, A2, A3, A4, AX⟩ := HCC.out d1 HROT.2
                have S1c : Aside _ := S1b
                clear S1 S1b HROT; have S1 := S1c; clear S1c
                have hs1 : d.size = d1.size := HP1.out.1.symm
                replace A1 := Lib.hid A1; replace A2 := Lib.hid A2; replace A3 := Lib.hid A3; replace A4 := Lib.hid A4; replace AX := Lib.hid AX
                have hss : d1.size ≤ d.size := by omega
                have hst : d.size ≤ d1.size := by omega
                clear hs1 HCC
                go_wp2_with (go_at_fn 45; refine (HIH.out a r mid _ _ _ _ d1 _ (by omega) (by omega) (by omega) (by omega) (by omega) (by omega) (by omega) S1.out (by omega) (by omega) A1.out A2.out).mono ?_; rintro e9 w3 ⟨rfl, d2, P2, Q2, S2⟩)
                have HP2 := Lib.hid P2; have HQ2 := Lib.hid Q2; have S2b : Aside _ := S2
                clear P2 Q2 S2; have S2 := S2b; clear S2b S1
                have B3 : Hid (SortedIn (ltOf cf) mid ee d2) := sorted_congr A3.out (fun i h _ => HP2.out.2.1 i (.inr h))
                have B4 : Hid (SortedIn (ltOf cf) ee b d2) := sorted_congr A4.out (fun i h _ => HP2.out.2.1 i (.inr (by omega)))
                have hs2 : d2.size = d1.size := HP2.out.1
                have hss2 : d2.size ≤ d.size := by omega
                have hst2 : d.size ≤ d2.size := by omega
                clear hs2
                go_wp2_with (go_at_fn 45; refine (HIH.out mid ee b _ _ _ _ d2 _ (by omega) (by omega) (by omega) (by omega) (by omega) (by omega) (by omega) S2.out (by omega) (by omega) B3.out B4.out).mono ?_; rintro e9 w4 ⟨rfl, d3, P3, Q3, S3⟩)
                have HP3 := Lib.hid P3; have HQ3 := Lib.hid Q3; have S3b : Aside _ := S3
                clear P3 Q3 S3; have S3 := S3b; clear S3b S2
                go_wp2
                go_end0
                refine ⟨rfl, d3, permIn_trans _ _ _ _ _ HP1.out (permIn_trans _ _ _ _ _ (permIn_mono _ _ a mid a b (by omega) (by omega) (by omega) HP2.out) (permIn_mono _ _ mid b a b (by omega) (by omega) (by omega) HP3.out)), sym_join (by omega) (by omega) AX.out HP2.out HQ2.out HP3.out HQ3.out, S3.out⟩
              · skip
                have z6 : ¬ (ee : Int) < (b : Int) := by omega
                go_wp2_with (go_at_fn 47; refine (rotZ L enc g cb blk off cap r m ee d.size _ _ _ d0 d w0 _ R hs S1.out (by omega) (by omega) (by omega) rfl (by omega) (by omega) (by omega) (by omega)).mono ?_; rintro e9 w2 ⟨rfl, d1, HROT, S1b⟩)
                have HP1 : Hid (PermIn a b d d1) := permIn_mono d d1 r ee a b (by omega) (by omega) hb HROT.1
                obtain ⟨A1, A2, A3, A4, AX⟩ := HCC.out d1 HROT.2
                have S1c : Aside _ := S1b
                clear S1 S1b HROT; have S1 := S1c; clear S1c
                have hs1 : d.size = d1.size := HP1.out.1.symm
                replace A1 := Lib.hid A1; replace A2 := Lib.hid A2; replace A3 := Lib.hid A3; replace A4 := Lib.hid A4; replace AX := Lib.hid AX
                have hss : d1.size ≤ d.size := by omega
                have hst : d.size ≤ d1.size := by omega
                clear hs1 HCC
                go_wp2_with (go_at_fn 45; refine (HIH.out a r mid _ _ _ _ d1 _ (by omega) (by omega) (by omega) (by omega) (by omega) (by omega) (by omega) S1.out (by omega) (by omega) A1.out A2.out).mono ?_; rintro e9 w3 ⟨rfl, d2, P2, Q2, S2⟩)
                have HP2 := Lib.hid P2; have HQ2 := Lib.hid Q2; have S2b : Aside _ := S2
                clear P2 Q2 S2; have S2 := S2b; clear S2b S1
                have B3 : Hid (SortedIn (ltOf cf) mid ee d2) := sorted_congr A3.out (fun i h _ => HP2.out.2.1 i (.inr h))
                have B4 : Hid (SortedIn (ltOf cf) ee b d2) := sorted_congr A4.out (fun i h _ => HP2.out.2.1 i (.inr (by omega)))
                have hs2 : d2.size = d1.size := HP2.out.1
                have hss2 : d2.size ≤ d.size := by omega
                have hst2 : d.size ≤ d2.size := by omega
                clear hs2
                go_wp2
                obtain ⟨d3, hd3⟩ : ∃ d3, d3 = d2 := ⟨_, rfl⟩
                have HP3 : Hid (PermIn mid b d2 d3) := by rw [hd3]; exact permIn_refl _ _ _
                have HQ3 : Hid (SortedIn (ltOf cf) mid b d3) := by rw [hd3]; have e : b = ee := (by omega); rw [e]; exact B3.out
                rw [← hd3] at S2
                have S3 := S2
                clear hd3 S2
                go_end0
                refine ⟨rfl, d3, permIn_trans _ _ _ _ _ HP1.out (permIn_trans _ _ _ _ _ (permIn_mono _ _ a mid a b (by omega) (by omega) (by omega) HP2.out) (permIn_mono _ _ mid b a b (by omega) (by omega) (by omega) HP3.out)), sym_join (by omega) (by omega) AX.out HP2.out HQ2.out HP3.out HQ3.out, S3.out⟩
            · skip
              have z5 : ¬ (a : Int) < (r : Int) := by omega
              rcases Nat.lt_or_ge ee b with hc4 | hc4
              · skip
                have z6 : (ee : Int) < (b : Int) := by omega
                exfalso; omega
              · skip
                have z6 : ¬ (ee : Int) < (b : Int) := by omega
                go_wp2_with (go_at_fn 47; refine (rotZ L enc g cb blk off cap r m ee d.size _ _ _ d0 d w0 _ R hs S1.out (by omega) (by omega) (by omega) rfl (by omega) (by omega) (by omega) (by omega)).mono ?_; rintro e9 w2 ⟨rfl, d1, HROT, S1b⟩)
                have HP1 : Hid (PermIn a b d d1) := permIn_mono d d1 r ee a b (by omega) (by omega) hb HROT.1
                obtain ⟨A1, A2, A3, A4, AX⟩ := HCC.out d1 HROT.2
                have S1c : Aside _ := S1b
                clear S1 S1b HROT; have S1 := S1c; clear S1c
                have hs1 : d.size = d1.size := HP1.out.1.symm
                replace A1 := Lib.hid A1; replace A2 := Lib.hid A2; replace A3 := Lib.hid A3; replace A4 := Lib.hid A4; replace AX := Lib.hid AX
                have hss : d1.size ≤ d.size := by omega
                have hst : d.size ≤ d1.size := by omega
                clear hs1 HCC
                obtain ⟨d2, hd2⟩ : ∃ d2, d2 = d1 := ⟨_, rfl⟩
                have HP2 : Hid (PermIn a mid d1 d2) := by rw [hd2]; exact permIn_refl _ _ _
                have HQ2 : Hid (SortedIn (ltOf cf) a mid d2) := by rw [hd2]; have e : a = r := (by omega); rw [e]; exact A2.out
                rw [← hd2] at S1
                have S2 := S1
                clear hd2 S1
                have B3 : Hid (SortedIn (ltOf cf) mid ee d2) := sorted_congr A3.out (fun i h _ => HP2.out.2.1 i (.inr h))
                have B4 : Hid (SortedIn (ltOf cf) ee b d2) := sorted_congr A4.out (fun i h _ => HP2.out.2.1 i (.inr (by omega)))
                have hs2 : d2.size = d1.size := HP2.out.1
                have hss2 : d2.size ≤ d.size := by omega
                have hst2 : d.size ≤ d2.size := by omega
                clear hs2
                go_wp2
                obtain ⟨d3, hd3⟩ : ∃ d3, d3 = d2 := ⟨_, rfl⟩
                have HP3 : Hid (PermIn mid b d2 d3) := by rw [hd3]; exact permIn_refl _ _ _
                have HQ3 : Hid (SortedIn (ltOf cf) mid b d3) := by rw [hd3]; have e : b = ee := (by omega); rw [e]; exact B3.out
                rw [← hd3] at S2
                have S3 := S2
                clear hd3 S2
                go_end0
                refine ⟨rfl, d3, permIn_trans _ _ _ _ _ HP1.out (permIn_trans _ _ _ _ _ (permIn_mono _ _ a mid a b (by omega) (by omega) (by omega) HP2.out) (permIn_mono _ _ mid b a b (by omega) (by omega) (by omega) HP3.out)), sym_join (by omega) (by omega) AX.out HP2.out HQ2.out HP3.out HQ3.out, S3.out⟩
          · skip
            have z2 : ¬ (m : Int) < (ee : Int) := by omega
            have z4 : ¬ (r : Int) < (mid : Int) := by omega
            have z5 : (a : Int) < (r : Int) := by omega
            have z6 : (ee : Int) < (b : Int) := by omega
            obtain ⟨d1, hd1⟩ : ∃ d1, d1 = d := ⟨_, rfl⟩
            have HP1 : Hid (PermIn a b d d1) := by rw [hd1]; exact permIn_refl _ _ _
            obtain ⟨A1, A2, A3, A4, AX⟩ := HCC.out d1 (fun q => by rw [hd1]; symm; rw [show ee = m by omega]; exact rot_right r m (fun q => d[q]!) q)
            rw [← hd1] at S1
            clear hd1
            have hs1 : d.size = d1.size := HP1.out.1.symm
            replace A1 := Lib.hid A1; replace A2 := Lib.hid A2; replace A3 := Lib.hid A3; replace A4 := Lib.hid A4; replace AX := Lib.hid AX
            have hss : d1.size ≤ d.size := by omega
            have hst : d.size ≤ d1.size := by omega
            clear hs1 HCC
            obtain ⟨d2, hd2⟩ : ∃ d2, d2 = d1 := ⟨_, rfl⟩
            have HP2 : Hid (PermIn a mid d1 d2) := by rw [hd2]; exact permIn_refl _ _ _
            have HQ2 : Hid (SortedIn (ltOf cf) a mid d2) := by rw [hd2]; have e : r = mid := (by omega); rw [← e]; exact A1.out
            rw [← hd2] at S1
            have S2 := S1
            clear hd2 S1
            have B3 : Hid (SortedIn (ltOf cf) mid ee d2) := sorted_congr A3.out (fun i h _ => HP2.out.2.1 i (.inr h))
            have B4 : Hid (SortedIn (ltOf cf) ee b d2) := sorted_congr A4.out (fun i h _ => HP2.out.2.1 i (.inr (by omega)))
            have hs2 : d2.size = d1.size := HP2.out.1
            have hss2 : d2.size ≤ d.size := by omega
            have hst2 : d.size ≤ d2.size := by omega
            clear hs2
            go_wp2_with (go_at_fn 45; refine (HIH.out mid ee b _ _ _ _ d2 _ (by omega) (by omega) (by omega) (by omega) (by omega) (by omega) (by omega) S2.out (by omega) (by omega) B3.out B4.out).mono ?_; rintro e9 w4 ⟨rfl, d3, P3, Q3, S3⟩)
            have HP3 := Lib.hid P3; have HQ3 := Lib.hid Q3; have S3b : Aside _ := S3
            clear P3 Q3 S3; have S3 := S3b; clear S3b S2
            go_wp2
            go_end0
            refine ⟨rfl, d3, permIn_trans _ _ _ _ _ HP1.out (permIn_trans _ _ _ _ _ (permIn_mono _ _ a mid a b (by omega) (by omega) (by omega) HP2.out) (permIn_mono _ _ mid b a b (by omega) (by omega) (by omega) HP3.out)), sym_join (by omega) (by omega) AX.out HP2.out HQ2.out HP3.out HQ3.out, S3.out⟩
        · skip
          exfalso; omega
  · skip
    obtain ⟨lo, hlo⟩ : ∃ lo : Nat, lo = a := ⟨_, rfl⟩
    obtain ⟨hi, hhi⟩ : ∃ hi : Nat, hi = m := ⟨_, rfl⟩
    have HLH : Hid ((mid < m ∧ lo = mid + m - b ∧ hi = mid) ∨ (m ≤ mid ∧ lo = a ∧ hi = m)) := .inr ⟨by omega, hlo, hhi⟩
    have hl1 : lo ≤ a := by omega
    have hl2 : a ≤ lo := by omega
    have hi1 : hi ≤ m := by omega
    have hi2 : m ≤ hi := by omega
    have hmmz : ¬ (mid : Int) < (m : Int) := by omega
    clear hlo hhi
    have rr1 : IntKind.i64.wrap ((mid : Int) + (m : Int) - (b : Int)) = (mid : Int) + (m : Int) - (b : Int) := by rw [IntKind.wrap_i64]; omega
    have rr2 : IntKind.i64.wrap ((mid : Int) + (m : Int) - 1) = (mid : Int) + (m : Int) - 1 := by rw [IntKind.wrap_i64]; omega
    have rr3 : IntKind.i64.wrap ((mid : Int) + (m : Int)) = (mid : Int) + (m : Int) := by rw [IntKind.wrap_i64]; omega
    go_enter L.fsy, Try.ntmps45
    go_wp2
    clear hma hbm hmmz
    go_loopg [20, 21] (hi - lo) (fun kx s20 s21 wr => ∃ (s r : Nat) (x y : Int), s20 = .int .i64 x ∧ s21 = .int .i64 y ∧ x = s ∧ y = r ∧ lo ≤ s ∧ s ≤ r ∧ r ≤ hi ∧ r - s ≤ kx ∧ Hid (s = lo ∨ ltOf cf d[mid + m - s]! d[s - 1]! = false) ∧ Hid (r = hi ∨ ltOf cf d[mid + m - 1 - r]! d[r]! = true) ∧ Aside (SWK enc k w0 blk off d wr))
    case atStart => exact ⟨lo, hi, _, _, rfl, rfl, by omega, by omega, Nat.le_refl _, by omega, Nat.le_refl _, Nat.le_refl _, .inl rfl, .inl rfl, S0⟩
    case round =>
      clear S0
      obtain ⟨s, r, x, y, rfl, rfl, rfl, rfl, hls, hsr, hrh, hkx, HI, HJ, S1⟩ := hrel
      by_cases hlt : s < r
      · skip
        obtain ⟨h, hh⟩ : ∃ h : Nat, h = (s + r) / 2 := ⟨_, rfl⟩
        have hh1 : s ≤ h := by omega
        have hh2 : h < r := by omega
        have hhz : ((s : Int) + (r : Int)) / 2 = (h : Int) := by omega
        clear hh
        have hltz : (s : Int) < (r : Int) := by omega
        obtain ⟨pc, hpc⟩ : ∃ pc : Nat, pc = mid + m - 1 - h := ⟨_, rfl⟩
        have HPC := Lib.hid hpc
        have hpl : pc < b := by omega
        have hpz : (mid : Int) + (m : Int) - 1 - (h : Int) = (pc : Int) := by omega
        have hpw : IntKind.i64.wrap ((mid : Int) + (m : Int) - 1 - (h : Int)) = (pc : Int) := by rw [IntKind.wrap_i64]; omega
        clear hpc
        cases hL : ltOf cf d[pc]! d[h]! with
        | true =>
          have ea5 : ((pc : Int)).toNat = pc := by omega
          have pa5 : (0 : Int) ≤ (pc : Int) := by omega
          have ba5 : (pc : Int) < (d.size : Int) := by omega
          have ra5 : IntKind.i64.wrap ((pc : Int)) = (pc : Int) := by rw [IntKind.wrap_i64]; omega
          have ec5 : ((h : Int)).toNat = h := by omega
          have pc5 : (0 : Int) ≤ (h : Int) := by omega
          have bc5 : (h : Int) < (d.size : Int) := by omega
          have rc5 : IntKind.i64.wrap ((h : Int)) = (h : Int) := by rw [IntKind.wrap_i64]; omega
          obtain ⟨x5, hx5⟩ : ∃ x, x = d[pc]! := ⟨_, rfl⟩
          obtain ⟨y5, hy5⟩ : ∃ x, x = d[h]! := ⟨_, rfl⟩
          have l5a := S1.out.ld R (by omega) P (pc) (by omega)
          have l5b := S1.out.ld R (by omega) P (h) (by omega)
          rw [← hx5] at l5a
          rw [← hy5] at l5b
          have hc5 := S1.out.cmp HC.out (by omega) x5 y5
          have hv5 : cf x5 y5 < 0 := by rw [hx5, hy5]; exact of_decide_eq_true hL
          have hd5 : decide (cf x5 y5 < 0) = true := decide_eq_true hv5
          have HL := Lib.hid hL
          clear hL hx5 hy5
          go_wp2_with fail
          go_quiet_grown (first | (go_at_fn g; refine Calls.grown_of (hc5 _ _)))
          have S2 : Aside (SWK enc k w0 blk off d (grow (wr.drewN nq) osq)) := S1.out.grown nq osq
          clear l5a l5b hc5 S1
          generalize grow (wr.drewN nq) osq = w2 at S2 ⊢
          clear nq osq
          go_wp2
          go_roundg (h - s)
          case measure => omega
          case rel => exact ⟨s, h, _, _, rfl, rfl, rfl, rfl, by omega, by omega, by omega, Nat.le_refl _, HI, .inr (by rw [← HPC.out]; exact HL.out), S2⟩
        | false =>
          have ea6 : ((pc : Int)).toNat = pc := by omega
          have pa6 : (0 : Int) ≤ (pc : Int) := by omega
          have ba6 : (pc : Int) < (d.size : Int) := by omega
          have ra6 : IntKind.i64.wrap ((pc : Int)) = (pc : Int) := by rw [IntKind.wrap_i64]; omega
          have ec6 : ((h : Int)).toNat = h := by omega
          have pc6 : (0 : Int) ≤ (h : Int) := by omega
          have bc6 : (h : Int) < (d.size : Int) := by omega
          have rc6 : IntKind.i64.wrap ((h : Int)) = (h : Int) := by rw [IntKind.wrap_i64]; omega
          obtain ⟨x6, hx6⟩ : ∃ x, x = d[pc]! := ⟨_, rfl⟩
          obtain ⟨y6, hy6⟩ : ∃ x, x = d[h]! := ⟨_, rfl⟩
          have l6a := S1.out.ld R (by omega) P (pc) (by omega)
          have l6b := S1.out.ld R (by omega) P (h) (by omega)
          rw [← hx6] at l6a
          rw [← hy6] at l6b
          have hc6 := S1.out.cmp HC.out (by omega) x6 y6
          have hv6 : ¬ cf x6 y6 < 0 := by rw [hx6, hy6]; exact of_decide_eq_false hL
          have hd6 : decide (cf x6 y6 < 0) = false := decide_eq_false hv6
          have HL := Lib.hid hL
          clear hL hx6 hy6
          go_wp2_with fail
          go_quiet_grown (first | (go_at_fn g; refine Calls.grown_of (hc6 _ _)))
          have S2 : Aside (SWK enc k w0 blk off d (grow (wr.drewN nq) osq)) := S1.out.grown nq osq
          clear l6a l6b hc6 S1
          generalize grow (wr.drewN nq) osq = w2 at S2 ⊢
          clear nq osq
          go_wp2
          go_roundg (r - (h + 1))
          case measure => omega
          case rel => exact ⟨h + 1, r, _, _, rfl, rfl, by go_num, rfl, by omega, by omega, by omega, Nat.le_refl _, .inr (by rw [Nat.add_sub_cancel, show mid + m - (h + 1) = mid + m - 1 - h by omega, ← HPC.out]; exact HL.out), HJ, S2⟩
      · skip
        obtain rfl : r = s := by omega
        have hltz : ¬ (r : Int) < (r : Int) := by omega
        have HCUT : Hid (Cut (ltOf cf) lo hi (mid + m) r d) := ⟨hls, hrh, HI.out, HJ.out⟩
        obtain ⟨ee, hee⟩ : ∃ ee : Nat, ee = mid + m - r := ⟨_, rfl⟩
        have HEE := Lib.hid hee
        have hez : (mid : Int) + (m : Int) - (r : Int) = (ee : Int) := by omega
        have h3 : ee + r ≤ mid + m := by omega
        have h4 : mid + m ≤ ee + r := by omega
        have har : a ≤ r := by omega
        have hrm : r ≤ m := by omega
        have hrd : r ≤ mid := by omega
        have heb : ee ≤ b := by omega
        have hae : a < mid := by omega
        have hmidb : mid < b := by omega
        clear hee HI HJ hlt hsr hkx hls hrh hl1 hl2 hi1 hi2 rr1 rr2 rr3
        have CUT : ∀ d1 : Array α, (∀ q, d1[q]! = rotG r m ee (fun q => d[q]!) q) → SortedIn (ltOf cf) a r d1 ∧ SortedIn (ltOf cf) r mid d1 ∧ SortedIn (ltOf cf) mid ee d1 ∧ SortedIn (ltOf cf) ee b d1 ∧ ∀ x y, a ≤ x → x < mid → mid ≤ y → y < b → ltOf cf d1[y]! d1[x]! = false := fun d1 hg => by rw [HEE.out] at hg ⊢; exact sym_cut HO.out ham hmb hm1 hm2 HLH.out HCUT.out H1.out H2.out hg
        have HCC := Lib.hid CUT; clear CUT HCUT HLH
        rcases Nat.lt_or_ge r m with hc1 | hc1
        · skip
          have z1 : (r : Int) < (m : Int) := by omega
          have z3 : (mid : Int) < (ee : Int) := by omega
          rcases Nat.lt_or_ge m ee with hc2 | hc2
          · skip
            have z2 : (m : Int) < (ee : Int) := by omega
            have z4 : (r : Int) < (mid : Int) := by omega
            rcases Nat.lt_or_ge a r with hc3 | hc3
            · skip
              have z5 : (a : Int) < (r : Int) := by omega
              rcases Nat.lt_or_ge ee b with hc4 | hc4
              · skip
                have z6 : (ee : Int) < (b : Int) := by omega
                go_wp2_with (go_at_fn 47; refine (rotZ L enc g cb blk off cap r m ee d.size _ _ _ d0 d w0 _ R hs S1.out (by omega) (by omega) (by omega) rfl (by omega) (by omega) (by omega) (by omega)).mono ?_; rintro e9 w2 ⟨rfl, d1, HROT, S1b⟩)
                have HP1 : Hid (PermIn a b d d1) := permIn_mono d d1 r ee a b (by omega) (by omega) hb HROT.1
                obtain ⟨A1, A2, A3, A4, AX⟩ := HCC.out d1 HROT.2
                have S1c : Aside _ := S1b
                clear S1 S1b HROT; have S1 := S1c; clear S1c
                have hs1 : d.size = d1.size := HP1.out.1.symm
                replace A1 := Lib.hid A1; replace A2 := Lib.hid A2; replace A3 := Lib.hid A3; replace A4 := Lib.hid A4; replace AX := Lib.hid AX
                have hss : d1.size ≤ d.size := by omega
                have hst : d.size ≤ d1.size := by omega
                clear hs1 HCC
                go_wp2_with (go_at_fn 45; refine (HIH.out a r mid _ _ _ _ d1 _ (by omega) (by omega) (by omega) (by omega) (by omega) (by omega) (by omega) S1.out (by omega) (by omega) A1.out A2.out).mono ?_; rintro e9 w3 ⟨rfl, d2, P2, Q2, S2⟩)
                have HP2 := Lib.hid P2; have HQ2 := Lib.hid Q2; have S2b : Aside _ := S2
                clear P2 Q2 S2; have S2 := S2b; clear S2b S1
                have B3 : Hid (SortedIn (ltOf cf) mid ee d2) := sorted_congr A3.out (fun i h _ => HP2.out.2.1 i (.inr h))
                have B4 : Hid (SortedIn (ltOf cf) ee b d2) := sorted_congr A4.out (fun i h _ => HP2.out.2.1 i (.inr (by omega)))
                have hs2 : d2.size = d1.size := HP2.out.1
                have hss2 : d2.size ≤ d.size := by omega
                have hst2 : d.size ≤ d2.size := by omega
                clear hs2
                go_wp2_with (go_at_fn 45; refine (HIH.out mid ee b _ _ _ _ d2 _ (by omega) (by omega) (by omega) (by omega) (by omega) (by omega) (by omega) S2.out (by omega) (by omega) B3.out B4.out).mono ?_; rintro e9 w4 ⟨rfl, d3, P3, Q3, S3⟩)
                have HP3 := Lib.hid P3; have HQ3 := Lib.hid Q3; have S3b : Aside _ := S3
                clear P3 Q3 S3; have S3 := S3b; clear S3b S2
                go_wp2
                go_end0
                refine ⟨rfl, d3, permIn_trans _ _ _ _ _ HP1.out (permIn_trans _ _ _ _ _ (permIn_mono _ _ a mid a b (by omega) (by omega) (by omega) HP2.out) (permIn_mono _ _ mid b a b (by omega) (by omega) (by omega) HP3.out)), sym_join (by omega) (by omega) AX.out HP2.out HQ2.out HP3.out HQ3.out, S3.out⟩
              · skip
                have z6 : ¬ (ee : Int) < (b : Int) := by omega
                exfalso; omega
            · skip
              have z5 : ¬ (a : Int) < (r : Int) := by omega
              rcases Nat.lt_or_ge ee b with hc4 | hc4
              · skip
                have z6 : (ee : Int) < (b : Int) := by omega
                go_wp2_with (go_at_fn 47; refine (rotZ L enc g cb blk off cap r m ee d.size _ _ _ d0 d w0 _ R hs S1.out (by omega) (by omega) (by omega) rfl (by omega) (by omega) (by omega) (by omega)).mono ?_; rintro e9 w2 ⟨rfl, d1, HROT, S1b⟩)
                have HP1 : Hid (PermIn a b d d1) := permIn_mono d d1 r ee a b (by omega) (by omega) hb HROT.1
                obtain ⟨A1, A2, A3, A4, AX⟩ := HCC.out d1 HROT.2
                have S1c : Aside _ := S1b
                clear S1 S1b HROT; have S1 := S1c; clear S1c
                have hs1 : d.size = d1.size := HP1.out.1.symm
                replace A1 := Lib.hid A1; replace A2 := Lib.hid A2; replace A3 := Lib.hid A3; replace A4 := Lib.hid A4; replace AX := Lib.hid AX
                have hss : d1.size ≤ d.size := by omega
                have hst : d.size ≤ d1.size := by omega
                clear hs1 HCC
                obtain ⟨d2, hd2⟩ : ∃ d2, d2 = d1 := ⟨_, rfl⟩
                have HP2 : Hid (PermIn a mid d1 d2) := by rw [hd2]; exact permIn_refl _ _ _
                have HQ2 : Hid (SortedIn (ltOf cf) a mid d2) := by rw [hd2]; have e : a = r := (by omega); rw [e]; exact A2.out
                rw [← hd2] at S1
                have S2 := S1
                clear hd2 S1
                have B3 : Hid (SortedIn (ltOf cf) mid ee d2) := sorted_congr A3.out (fun i h _ => HP2.out.2.1 i (.inr h))
                have B4 : Hid (SortedIn (ltOf cf) ee b d2) := sorted_congr A4.out (fun i h _ => HP2.out.2.1 i (.inr (by omega)))
                have hs2 : d2.size = d1.size := HP2.out.1
                have hss2 : d2.size ≤ d.size := by omega
                have hst2 : d.size ≤ d2.size := by omega
                clear hs2
                go_wp2_with (go_at_fn 45; refine (HIH.out mid ee b _ _ _ _ d2 _ (by omega) (by omega) (by omega) (by omega) (by omega) (by omega) (by omega) S2.out (by omega) (by omega) B3.out B4.out).mono ?_; rintro e9 w4 ⟨rfl, d3, P3, Q3, S3⟩)
                have HP3 := Lib.hid P3; have HQ3 := Lib.hid Q3; have S3b : Aside _ := S3
                clear P3 Q3 S3; have S3 := S3b; clear S3b S2
                go_wp2
                go_end0
                refine ⟨rfl, d3, permIn_trans _ _ _ _ _ HP1.out (permIn_trans _ _ _ _ _ (permIn_mono _ _ a mid a b (by omega) (by omega) (by omega) HP2.out) (permIn_mono _ _ mid b a b (by omega) (by omega) (by omega) HP3.out)), sym_join (by omega) (by omega) AX.out HP2.out HQ2.out HP3.out HQ3.out, S3.out⟩
              · skip
                have z6 : ¬ (ee : Int) < (b : Int) := by omega
                go_wp2_with (go_at_fn 47; refine (rotZ L enc g cb blk off cap r m ee d.size _ _ _ d0 d w0 _ R hs S1.out (by omega) (by omega) (by omega) rfl (by omega) (by omega) (by omega) (by omega)).mono ?_; rintro e9 w2 ⟨rfl, d1, HROT, S1b⟩)
                have HP1 : Hid (PermIn a b d d1) := permIn_mono d d1 r ee a b (by omega) (by omega) hb HROT.1
                obtain ⟨A1, A2, A3, A4, AX⟩ := HCC.out d1 HROT.2
                have S1c : Aside _ := S1b
                clear S1 S1b HROT; have S1 := S1c; clear S1c
                have hs1 : d.size = d1.size := HP1.out.1.symm
                replace A1 := Lib.hid A1; replace A2 := Lib.hid A2; replace A3 := Lib.hid A3; replace A4 := Lib.hid A4; replace AX := Lib.hid AX
                have hss : d1.size ≤ d.size := by omega
                have hst : d.size ≤ d1.size := by omega
                clear hs1 HCC
                obtain ⟨d2, hd2⟩ : ∃ d2, d2 = d1 := ⟨_, rfl⟩
                have HP2 : Hid (PermIn a mid d1 d2) := by rw [hd2]; exact permIn_refl _ _ _
                have HQ2 : Hid (SortedIn (ltOf cf) a mid d2) := by rw [hd2]; have e : a = r := (by omega); rw [e]; exact A2.out
                rw [← hd2] at S1
                have S2 := S1
                clear hd2 S1
                have B3 : Hid (SortedIn (ltOf cf) mid ee d2) := sorted_congr A3.out (fun i h _ => HP2.out.2.1 i (.inr h))
                have B4 : Hid (SortedIn (ltOf cf) ee b d2) := sorted_congr A4.out (fun i h _ => HP2.out.2.1 i (.inr (by omega)))
                have hs2 : d2.size = d1.size := HP2.out.1
                have hss2 : d2.size ≤ d.size := by omega
                have hst2 : d.size ≤ d2.size := by omega
                clear hs2
                go_wp2
                obtain ⟨d3, hd3⟩ : ∃ d3, d3 = d2 := ⟨_, rfl⟩
                have HP3 : Hid (PermIn mid b d2 d3) := by rw [hd3]; exact permIn_refl _ _ _
                have HQ3 : Hid (SortedIn (ltOf cf) mid b d3) := by rw [hd3]; have e : b = ee := (by omega); rw [e]; exact B3.out
                rw [← hd3] at S2
                have S3 := S2
                clear hd3 S2
                go_end0
                refine ⟨rfl, d3, permIn_trans _ _ _ _ _ HP1.out (permIn_trans _ _ _ _ _ (permIn_mono _ _ a mid a b (by omega) (by omega) (by omega) HP2.out) (permIn_mono _ _ mid b a b (by omega) (by omega) (by omega) HP3.out)), sym_join (by omega) (by omega) AX.out HP2.out HQ2.out HP3.out HQ3.out, S3.out⟩
          · skip
            exfalso; omega
        · skip
          have z1 : ¬ (r : Int) < (m : Int) := by omega
          have z3 : ¬ (mid : Int) < (ee : Int) := by omega
          have z5 : (a : Int) < (r : Int) := by omega
          rcases Nat.lt_or_ge r mid with hc2 | hc2
          · skip
            have z4 : (r : Int) < (mid : Int) := by omega
            obtain ⟨d1, hd1⟩ : ∃ d1, d1 = d := ⟨_, rfl⟩
            have HP1 : Hid (PermIn a b d d1) := by rw [hd1]; exact permIn_refl _ _ _
            obtain ⟨A1, A2, A3, A4, AX⟩ := HCC.out d1 (fun q => by rw [hd1]; symm; rw [show r = m by omega]; exact rot_left m ee (fun q => d[q]!) q)
            rw [← hd1] at S1
            clear hd1
            have hs1 : d.size = d1.size := HP1.out.1.symm
            replace A1 := Lib.hid A1; replace A2 := Lib.hid A2; replace A3 := Lib.hid A3; replace A4 := Lib.hid A4; replace AX := Lib.hid AX
            have hss : d1.size ≤ d.size := by omega
            have hst : d.size ≤ d1.size := by omega
            clear hs1 HCC
            go_wp2_with (go_at_fn 45; refine (HIH.out a r mid _ _ _ _ d1 _ (by omega) (by omega) (by omega) (by omega) (by omega) (by omega) (by omega) S1.out (by omega) (by omega) A1.out A2.out).mono ?_; rintro e9 w3 ⟨rfl, d2, P2, Q2, S2⟩)
            have HP2 := Lib.hid P2; have HQ2 := Lib.hid Q2; have S2b : Aside _ := S2
            clear P2 Q2 S2; have S2 := S2b; clear S2b S1
            have B3 : Hid (SortedIn (ltOf cf) mid ee d2) := sorted_congr A3.out (fun i h _ => HP2.out.2.1 i (.inr h))
            have B4 : Hid (SortedIn (ltOf cf) ee b d2) := sorted_congr A4.out (fun i h _ => HP2.out.2.1 i (.inr (by omega)))
            have hs2 : d2.size = d1.size := HP2.out.1
            have hss2 : d2.size ≤ d.size := by omega
            have hst2 : d.size ≤ d2.size := by omega
            clear hs2
            go_wp2
            obtain ⟨d3, hd3⟩ : ∃ d3, d3 = d2 := ⟨_, rfl⟩
            have HP3 : Hid (PermIn mid b d2 d3) := by rw [hd3]; exact permIn_refl _ _ _
            have HQ3 : Hid (SortedIn (ltOf cf) mid b d3) := by rw [hd3]; have e : mid = ee := (by omega); rw [e]; exact B4.out
            rw [← hd3] at S2
            have S3 := S2
            clear hd3 S2
            go_end0
            refine ⟨rfl, d3, permIn_trans _ _ _ _ _ HP1.out (permIn_trans _ _ _ _ _ (permIn_mono _ _ a mid a b (by omega) (by omega) (by omega) HP2.out) (permIn_mono _ _ mid b a b (by omega) (by omega) (by omega) HP3.out)), sym_join (by omega) (by omega) AX.out HP2.out HQ2.out HP3.out HQ3.out, S3.out⟩
          · skip
            have z4 : ¬ (r : Int) < (mid : Int) := by omega
            obtain ⟨d1, hd1⟩ : ∃ d1, d1 = d := ⟨_, rfl⟩
            have HP1 : Hid (PermIn a b d d1) := by rw [hd1]; exact permIn_refl _ _ _
            obtain ⟨A1, A2, A3, A4, AX⟩ := HCC.out d1 (fun q => by rw [hd1]; symm; rw [show r = m by omega]; exact rot_left m ee (fun q => d[q]!) q)
            rw [← hd1] at S1
            clear hd1
            have hs1 : d.size = d1.size := HP1.out.1.symm
            replace A1 := Lib.hid A1; replace A2 := Lib.hid A2; replace A3 := Lib.hid A3; replace A4 := Lib.hid A4; replace AX := Lib.hid AX
            have hss : d1.size ≤ d.size := by omega
            have hst : d.size ≤ d1.size := by omega
            clear hs1 HCC
            obtain ⟨d2, hd2⟩ : ∃ d2, d2 = d1 := ⟨_, rfl⟩
            have HP2 : Hid (PermIn a mid d1 d2) := by rw [hd2]; exact permIn_refl _ _ _
            have HQ2 : Hid (SortedIn (ltOf cf) a mid d2) := by rw [hd2]; have e : r = mid := (by omega); rw [← e]; exact A1.out
            rw [← hd2] at S1
            have S2 := S1
            clear hd2 S1
            have B3 : Hid (SortedIn (ltOf cf) mid ee d2) := sorted_congr A3.out (fun i h _ => HP2.out.2.1 i (.inr h))
            have B4 : Hid (SortedIn (ltOf cf) ee b d2) := sorted_congr A4.out (fun i h _ => HP2.out.2.1 i (.inr (by omega)))
            have hs2 : d2.size = d1.size := HP2.out.1
            have hss2 : d2.size ≤ d.size := by omega
            have hst2 : d.size ≤ d2.size := by omega
            clear hs2
            go_wp2
            obtain ⟨d3, hd3⟩ : ∃ d3, d3 = d2 := ⟨_, rfl⟩
            have HP3 : Hid (PermIn mid b d2 d3) := by rw [hd3]; exact permIn_refl _ _ _
            have HQ3 : Hid (SortedIn (ltOf cf) mid b d3) := by rw [hd3]; have e : mid = ee := (by omega); rw [e]; exact B4.out
            rw [← hd3] at S2
            have S3 := S2
            clear hd3 S2
            go_end0
            refine ⟨rfl, d3, permIn_trans _ _ _ _ _ HP1.out (permIn_trans _ _ _ _ _ (permIn_mono _ _ a mid a b (by omega) (by omega) (by omega) HP2.out) (permIn_mono _ _ mid b a b (by omega) (by omega) (by omega) HP3.out)), sym_join (by omega) (by omega) AX.out HP2.out HQ2.out HP3.out HQ3.out, S3.out⟩
end Go.Proofs.Ytdlphgknplomkaa
