/- The walk of the library's symMerge at elements of k cells. No statement is proved here. -/
import Derived.Test.YtdlphgknplomkaaSymW
import Derived.Lib.Hide
namespace Go.Proofs.Ytdlphgknplomkaa
open Go.Shelf Go.RowKit Go.Lib Go.Sort
variable {P : Program} {α : Type} [Inhabited α]

def SymR (lt : α → α → Bool) (enc : α → List Value) (k : Nat) (w0 : World) (blk off a b : Nat) (d : Array α) (e : Ending) (w' : World) : Prop :=
  e = .returned (.tuple #[]) ∧ ∃ d', PermIn a b d d' ∧ SortedIn lt a b d' ∧ SWK enc k w0 blk off d' w'
theorem rotZ {k : Nat} (L : SymP P k) (enc : α → List Value) (g : Nat) (cb : Array Value) (blk off cap a m b sz : Nat) (x y z : Int) (d0 d : Array α) (w0 w : World)
    (R : RowK enc k w0 blk off d0) (hs : d0.size = d.size) (S : SWK enc k w0 blk off d w) (hx : x = a) (hy : y = m) (hz : z = b) (hsd : sz = d.size) (ham : a < m) (hmb : m < b) (hb : b ≤ d.size) (hsz : d.size < 4611686018427387904) :
    Calls P 47 #[.slice (some ⟨blk, off, none⟩) sz cap, .int .i64 x, .int .i64 y, .int .i64 z, .func (.func g) #[] cb] w fun e w' => e = .returned (.tuple #[]) ∧ ∃ d', Rot a m b d d' ∧ SWK enc k w0 blk off d' w' := by
  subst hx hy hz hsd
  exact rotW L enc g cb blk off cap a m b d0 d w0 w R hs S ham hmb hb hsz

set_option maxHeartbeats 8000000 in
set_option maxRecDepth 1000000 in
theorem symW1 {k : Nat} (L : SymP P k) (enc : α → List Value) (cf : α → α → Int) (hO : SWO (ltOf cf)) (g : Nat) (cb : Array Value) (blk off cap a m b : Nat) (d0 d : Array α) (w0 w : World)
    (eg : ∀ args w, (callFunc g args).run P w = .ok (.enter g args) w) (hcmp : CmpLays P g cb enc k cf blk off d0.size w0)
    (R : RowK enc k w0 blk off d0) (hs : d0.size = d.size) (S : SWK enc k w0 blk off d w) (ham : a < m) (hmb : m < b) (hb : b ≤ d.size) (hsz : d.size < 2305843009213693952) (h1 : SortedIn (ltOf cf) a m d) (h2 : SortedIn (ltOf cf) m b d) (hm1 : m ≤ a + 1) :
    Calls P 45 #[.slice (some ⟨blk, off, none⟩) d.size cap, .int .i64 a, .int .i64 m, .int .i64 b, .func (.func g) #[] cb] w (SymR (ltOf cf) enc k w0 blk off a b d) := by
  have mixed := L.mixed; have t0 := L.t0; have a0 := L.a0; have z0 := L.z0; have v0 := L.v0; have t3 := L.t3; have a3 := L.a3; have z3 := L.z3; have v3 := L.v3; have t4 := L.t4; have a4 := L.a4; have z4 := L.z4; have v4 := L.v4; have tS := L.tS; have aS := L.aS; have zS := L.zS; have vS := L.vS; have aE := L.aE; have zE := L.zE; have tF := L.tF; have aF := L.aF; have zF := L.zF; have vF := L.vF; have tU := L.tU; have aU := L.aU; have zU := L.zU; have vU := L.vU
  have S0 : Aside (SWK enc k w0 blk off d w) := S
  have HC : Aside _ := hcmp
  have HO := Lib.hid hO; have H1 := Lib.hid h1; have H2 := Lib.hid h2
  clear S hcmp hO h1 h2
  have hma : ((m : Int) - (a : Int) == 1) = true := by simp; omega
  go_enter L.fsy, Try.ntmps45
  go_wp2
  clear hma
  go_loopg [10, 11] (b - m) (fun kx s10 s11 wr => ∃ (i j : Nat), s10 = .int .i64 i ∧ s11 = .int .i64 j ∧ m ≤ i ∧ i ≤ j ∧ j ≤ b ∧ j - i ≤ kx ∧ Hid (i = m ∨ ltOf cf d[i - 1]! d[a]! = true) ∧ Hid (j = b ∨ ltOf cf d[j]! d[a]! = false) ∧ Aside (SWK enc k w0 blk off d wr))
  case atStart => exact ⟨m, b, rfl, rfl, Nat.le_refl _, by omega, Nat.le_refl _, Nat.le_refl _, .inl rfl, .inl rfl, S0⟩
  case round =>
    clear S0
    obtain ⟨i, j, rfl, rfl, him, hij, hjb, hkx, HI, HJ, S1⟩ := hrel
    by_cases hlt : i < j
    · skip
      obtain ⟨h, hh⟩ : ∃ h : Nat, h = (i + j) / 2 := ⟨_, rfl⟩
      have hh1 : i ≤ h := by omega
      have hh2 : h < j := by omega
      have hhz : ((i : Int) + (j : Int)) / 2 = (h : Int) := by omega
      clear hh
      have hltz : (i : Int) < (j : Int) := by omega
      cases hL : ltOf cf d[h]! d[a]! with
      | true =>
        have ea5 : ((h : Int)).toNat = h := by omega
        have pa5 : (0 : Int) ≤ (h : Int) := by omega
        have ba5 : (h : Int) < (d.size : Int) := by omega
        have ra5 : IntKind.i64.wrap ((h : Int)) = (h : Int) := by rw [IntKind.wrap_i64]; omega
        have ec5 : ((a : Int)).toNat = a := by omega
        have pc5 : (0 : Int) ≤ (a : Int) := by omega
        have bc5 : (a : Int) < (d.size : Int) := by omega
        have rc5 : IntKind.i64.wrap ((a : Int)) = (a : Int) := by rw [IntKind.wrap_i64]; omega
        obtain ⟨x5, hx5⟩ : ∃ x, x = d[h]! := ⟨_, rfl⟩
        obtain ⟨y5, hy5⟩ : ∃ x, x = d[a]! := ⟨_, rfl⟩
        have l5a := S1.out.ld R (by omega) P (h) (by omega)
        have l5b := S1.out.ld R (by omega) P (a) (by omega)
        rw [← hx5] at l5a
        rw [← hy5] at l5b
        have hc5 := S1.out.cmp HC.out (by omega) x5 y5
        have hv5 : cf x5 y5 < 0 := by rw [hx5, hy5]; exact of_decide_eq_true hL
        have hd5 : decide (cf x5 y5 < 0) = true := decide_eq_true hv5
        have HL := Lib.hid hL
        clear hL hx5 hy5
        go_wp2_with fail
        go_quiet_grown (first | (go_at_fn g; refine Calls.grown_of (hc5 _ _)))
        have S2 : Aside (SWK enc k w0 blk off d (grow (wr.drewN nq) osq)) := S1.out.grown nq osq
        clear l5a l5b hc5 S1
        generalize grow (wr.drewN nq) osq = w2 at S2 ⊢
        clear nq osq
        go_wp2
        go_roundg (j - (h + 1))
        case measure => omega
        case rel => exact ⟨h + 1, j, by go_num, rfl, by omega, by omega, hjb, Nat.le_refl _, .inr (by rw [Nat.add_sub_cancel]; exact HL.out), HJ, S2⟩
      | false =>
        have ea6 : ((h : Int)).toNat = h := by omega
        have pa6 : (0 : Int) ≤ (h : Int) := by omega
        have ba6 : (h : Int) < (d.size : Int) := by omega
        have ra6 : IntKind.i64.wrap ((h : Int)) = (h : Int) := by rw [IntKind.wrap_i64]; omega
        have ec6 : ((a : Int)).toNat = a := by omega
        have pc6 : (0 : Int) ≤ (a : Int) := by omega
        have bc6 : (a : Int) < (d.size : Int) := by omega
        have rc6 : IntKind.i64.wrap ((a : Int)) = (a : Int) := by rw [IntKind.wrap_i64]; omega
        obtain ⟨x6, hx6⟩ : ∃ x, x = d[h]! := ⟨_, rfl⟩
        obtain ⟨y6, hy6⟩ : ∃ x, x = d[a]! := ⟨_, rfl⟩
        have l6a := S1.out.ld R (by omega) P (h) (by omega)
        have l6b := S1.out.ld R (by omega) P (a) (by omega)
        rw [← hx6] at l6a
        rw [← hy6] at l6b
        have hc6 := S1.out.cmp HC.out (by omega) x6 y6
        have hv6 : ¬ cf x6 y6 < 0 := by rw [hx6, hy6]; exact of_decide_eq_false hL
        have hd6 : decide (cf x6 y6 < 0) = false := decide_eq_false hv6
        have HL := Lib.hid hL
        clear hL hx6 hy6
        go_wp2_with fail
        go_quiet_grown (first | (go_at_fn g; refine Calls.grown_of (hc6 _ _)))
        have S2 : Aside (SWK enc k w0 blk off d (grow (wr.drewN nq) osq)) := S1.out.grown nq osq
        clear l6a l6b hc6 S1
        generalize grow (wr.drewN nq) osq = w2 at S2 ⊢
        clear nq osq
        go_wp2
        go_roundg (h - i)
        case measure => omega
        case rel => exact ⟨i, h, rfl, rfl, by omega, by omega, by omega, Nat.le_refl _, HI, .inr HL.out, S2⟩
    · skip
      obtain rfl : j = i := by omega
      clear hlt hij
      have hr1 : IntKind.i64.wrap ((j : Int) - 1) = (j : Int) - 1 := by rw [IntKind.wrap_i64]; omega
      go_wp2
      go_loopg [13] (j - 1 - a) (fun kx s13 wr2 => ∃ (q : Nat), s13 = .int .i64 ((a + q : Nat) : Int) ∧ q ≤ j - 1 - a ∧ j - 1 - a - q ≤ kx ∧ Aside (SWK enc k w0 blk off (shUp d a q) wr2))
      case atStart => exact ⟨0, rfl, by omega, by omega, S1⟩
      case round =>
        clear S1
        obtain ⟨q, rfl, hq, hkx2, S1⟩ := hrel
        have hsd : (shUp d a q).size = d.size := shUp_size d a q
        by_cases hlt : a + q < j - 1
        · skip
          have HD : Hid (shUp d a (q + 1) = swp (shUp d a q) (a + q) (a + q + 1)) := rfl
          generalize shUp d a q = dk at *
          have hltz : (a : Int) + (q : Int) < (j : Int) - 1 := by omega
          have ea11 : ((a : Int) + (q : Int)).toNat = a + q := by omega
          have pa11 : (0 : Int) ≤ (a : Int) + (q : Int) := by omega
          have ba11 : (a : Int) + (q : Int) < (d.size : Int) := by omega
          have ra11 : IntKind.i64.wrap ((a : Int) + (q : Int)) = (a : Int) + (q : Int) := by rw [IntKind.wrap_i64]; omega
          have ec11 : ((a : Int) + (q : Int) + 1).toNat = a + q + 1 := by omega
          have pc11 : (0 : Int) ≤ (a : Int) + (q : Int) + 1 := by omega
          have bc11 : (a : Int) + (q : Int) + 1 < (d.size : Int) := by omega
          have rc11 : IntKind.i64.wrap ((a : Int) + (q : Int) + 1) = (a : Int) + (q : Int) + 1 := by rw [IntKind.wrap_i64]; omega
          have S2 : Aside (SWK enc k w0 blk off (swp dk (a + q) (a + q + 1)) ((wr.drew.setCells blk (off + (a + q) * k) (enc dk[a + q + 1]!)).setCells blk (off + (a + q + 1) * k) (enc dk[a + q]!))) := S1.out.swapped R (a + q) (a + q + 1) (by omega) (by omega)
          have l11a := S1.out.ld1 R (by omega) P (a + q) (by omega)
          have l11b := S1.out.ld1 R (by omega) P (a + q + 1) (by omega)
          have s11a := S1.out.st1 R (by omega) P (a + q) (by omega) dk[a + q + 1]!
          have s11b := S1.out.st2 R (by omega) P (a + q) (a + q + 1) (by omega) (by omega) dk[a + q + 1]! dk[a + q]!
          have n11a : (enc dk[a + q]!).length = k := R.hk _
          have n11b : (enc dk[a + q + 1]!).length = k := R.hk _
          generalize enc dk[a + q]! = cI11 at S2 l11a s11b n11a
          generalize enc dk[a + q + 1]! = cJ11 at S2 l11b s11a s11b n11b
          clear S1
          go_wp2_with fail
          go_big_region_o
          all_goals clear l11a l11b s11a s11b
          generalize (wr.drew.setCells blk (off + (a + q) * k) cJ11).setCells blk (off + (a + q + 1) * k) cI11 = w2 at S2 ⊢
          go_wp2
          go_roundg (j - 1 - a - (q + 1))
          case measure => omega
          case rel => exact ⟨q + 1, by go_num, by omega, Nat.le_refl _, by rw [HD.out]; exact S2⟩
        · skip
          have hltz : ¬ (a : Int) + (q : Int) < (j : Int) - 1 := by omega
          go_wp2
          go_end0
          obtain rfl : m = a + 1 := by omega
          obtain rfl : q = j - 1 - a := by omega
          exact ⟨rfl, _, shUp_perm d a a b (Nat.le_refl _) hb _ (by omega), ins_up HO.out H2.out him hjb HI.out HJ.out (fun p => shUp_get d a _ (by omega) p), S1.out⟩

set_option maxHeartbeats 8000000 in
set_option maxRecDepth 1000000 in
theorem symW2 {k : Nat} (L : SymP P k) (enc : α → List Value) (cf : α → α → Int) (hO : SWO (ltOf cf)) (g : Nat) (cb : Array Value) (blk off cap a m b : Nat) (d0 d : Array α) (w0 w : World)
    (eg : ∀ args w, (callFunc g args).run P w = .ok (.enter g args) w) (hcmp : CmpLays P g cb enc k cf blk off d0.size w0)
    (R : RowK enc k w0 blk off d0) (hs : d0.size = d.size) (S : SWK enc k w0 blk off d w) (hmb : m < b) (hb : b ≤ d.size) (hsz : d.size < 2305843009213693952) (h1 : SortedIn (ltOf cf) a m d) (h2 : SortedIn (ltOf cf) m b d) (hma1 : a + 1 < m) (hb1 : b ≤ m + 1) :
    Calls P 45 #[.slice (some ⟨blk, off, none⟩) d.size cap, .int .i64 a, .int .i64 m, .int .i64 b, .func (.func g) #[] cb] w (SymR (ltOf cf) enc k w0 blk off a b d) := by
  have mixed := L.mixed; have t0 := L.t0; have a0 := L.a0; have z0 := L.z0; have v0 := L.v0; have t3 := L.t3; have a3 := L.a3; have z3 := L.z3; have v3 := L.v3; have t4 := L.t4; have a4 := L.a4; have z4 := L.z4; have v4 := L.v4; have tS := L.tS; have aS := L.aS; have zS := L.zS; have vS := L.vS; have aE := L.aE; have zE := L.zE; have tF := L.tF; have aF := L.aF; have zF := L.zF; have vF := L.vF; have tU := L.tU; have aU := L.aU; have zU := L.zU; have vU := L.vU
  have S0 : Aside (SWK enc k w0 blk off d w) := S
  have HC : Aside _ := hcmp
  have HO := Lib.hid hO; have H1 := Lib.hid h1; have H2 := Lib.hid h2
  clear S hcmp hO h1 h2
  have hma : ((m : Int) - (a : Int) == 1) = false := by simp; omega
  have hbm : ((b : Int) - (m : Int) == 1) = true := by simp; omega
  go_enter L.fsy, Try.ntmps45
  go_wp2
  clear hma hbm
  go_loopg [14, 15] (m - a) (fun kx s10 s11 wr => ∃ (i j : Nat), s10 = .int .i64 i ∧ s11 = .int .i64 j ∧ a ≤ i ∧ i ≤ j ∧ j ≤ m ∧ j - i ≤ kx ∧ Hid (i = a ∨ ltOf cf d[m]! d[i - 1]! = false) ∧ Hid (j = m ∨ ltOf cf d[m]! d[j]! = true) ∧ Aside (SWK enc k w0 blk off d wr))
  case atStart => exact ⟨a, m, rfl, rfl, Nat.le_refl _, by omega, Nat.le_refl _, Nat.le_refl _, .inl rfl, .inl rfl, S0⟩
  case round =>
    clear S0
    obtain ⟨i, j, rfl, rfl, hai, hij, hjm, hkx, HI, HJ, S1⟩ := hrel
    by_cases hlt : i < j
    · skip
      obtain ⟨h, hh⟩ : ∃ h : Nat, h = (i + j) / 2 := ⟨_, rfl⟩
      have hh1 : i ≤ h := by omega
      have hh2 : h < j := by omega
      have hhz : ((i : Int) + (j : Int)) / 2 = (h : Int) := by omega
      clear hh
      have hltz : (i : Int) < (j : Int) := by omega
      cases hL : ltOf cf d[m]! d[h]! with
      | true =>
        have ea5 : ((m : Int)).toNat = m := by omega
        have pa5 : (0 : Int) ≤ (m : Int) := by omega
        have ba5 : (m : Int) < (d.size : Int) := by omega
        have ra5 : IntKind.i64.wrap ((m : Int)) = (m : Int) := by rw [IntKind.wrap_i64]; omega
        have ec5 : ((h : Int)).toNat = h := by omega
        have pc5 : (0 : Int) ≤ (h : Int) := by omega
        have bc5 : (h : Int) < (d.size : Int) := by omega
        have rc5 : IntKind.i64.wrap ((h : Int)) = (h : Int) := by rw [IntKind.wrap_i64]; omega
        obtain ⟨x5, hx5⟩ : ∃ x, x = d[m]! := ⟨_, rfl⟩
        obtain ⟨y5, hy5⟩ : ∃ x, x = d[h]! := ⟨_, rfl⟩
        have l5a := S1.out.ld R (by omega) P (m) (by omega)
        have l5b := S1.out.ld R (by omega) P (h) (by omega)
        rw [← hx5] at l5a
        rw [← hy5] at l5b
        have hc5 := S1.out.cmp HC.out (by omega) x5 y5
        have hv5 : cf x5 y5 < 0 := by rw [hx5, hy5]; exact of_decide_eq_true hL
        have hd5 : decide (cf x5 y5 < 0) = true := decide_eq_true hv5
        have HL := Lib.hid hL
        clear hL hx5 hy5
        go_wp2_with fail
        go_quiet_grown (first | (go_at_fn g; refine Calls.grown_of (hc5 _ _)))
        have S2 : Aside (SWK enc k w0 blk off d (grow (wr.drewN nq) osq)) := S1.out.grown nq osq
        clear l5a l5b hc5 S1
        generalize grow (wr.drewN nq) osq = w2 at S2 ⊢
        clear nq osq
        go_wp2
        go_roundg (h - i)
        case measure => omega
        case rel => exact ⟨i, h, rfl, rfl, by omega, by omega, by omega, Nat.le_refl _, HI, .inr HL.out, S2⟩
      | false =>
        have ea6 : ((m : Int)).toNat = m := by omega
        have pa6 : (0 : Int) ≤ (m : Int) := by omega
        have ba6 : (m : Int) < (d.size : Int) := by omega
        have ra6 : IntKind.i64.wrap ((m : Int)) = (m : Int) := by rw [IntKind.wrap_i64]; omega
        have ec6 : ((h : Int)).toNat = h := by omega
        have pc6 : (0 : Int) ≤ (h : Int) := by omega
        have bc6 : (h : Int) < (d.size : Int) := by omega
        have rc6 : IntKind.i64.wrap ((h : Int)) = (h : Int) := by rw [IntKind.wrap_i64]; omega
        obtain ⟨x6, hx6⟩ : ∃ x, x = d[m]! := ⟨_, rfl⟩
        obtain ⟨y6, hy6⟩ : ∃ x, x = d[h]! := ⟨_, rfl⟩
        have l6a := S1.out.ld R (by omega) P (m) (by omega)
        have l6b := S1.out.ld R (by omega) P (h) (by omega)
        rw [← hx6] at l6a
        rw [← hy6] at l6b
        have hc6 := S1.out.cmp HC.out (by omega) x6 y6
        have hv6 : ¬ cf x6 y6 < 0 := by rw [hx6, hy6]; exact of_decide_eq_false hL
        have hd6 : decide (cf x6 y6 < 0) = false := decide_eq_false hv6
        have HL := Lib.hid hL
        clear hL hx6 hy6
        go_wp2_with fail
        go_quiet_grown (first | (go_at_fn g; refine Calls.grown_of (hc6 _ _)))
        have S2 : Aside (SWK enc k w0 blk off d (grow (wr.drewN nq) osq)) := S1.out.grown nq osq
        clear l6a l6b hc6 S1
        generalize grow (wr.drewN nq) osq = w2 at S2 ⊢
        clear nq osq
        go_wp2
        go_roundg (j - (h + 1))
        case measure => omega
        case rel => exact ⟨h + 1, j, by go_num, rfl, by omega, by omega, hjm, Nat.le_refl _, .inr (by rw [Nat.add_sub_cancel]; exact HL.out), HJ, S2⟩
    · skip
      obtain rfl : j = i := by omega
      clear hlt hij
      go_wp2
      go_loopg [17] (m - j) (fun kx s13 wr2 => ∃ (q : Nat) (z : Int), s13 = .int .i64 z ∧ z = (m : Int) - (q : Int) ∧ q ≤ m - j ∧ m - j - q ≤ kx ∧ Aside (SWK enc k w0 blk off (shDn d m q) wr2))
      case atStart => exact ⟨0, _, rfl, by omega, by omega, by omega, S1⟩
      case round =>
        clear S1
        obtain ⟨q, z, rfl, hz, hq, hkx2, S1⟩ := hrel
        have hsd : (shDn d m q).size = d.size := shDn_size d m q
        by_cases hlt : j < m - q
        · skip
          have HD : Hid (shDn d m (q + 1) = swp (shDn d m q) (m - q) (m - q - 1)) := rfl
          generalize shDn d m q = dk at *
          have hltz : (j : Int) < z := by omega
          have HZ : Hid (z = (m : Int) - (q : Int)) := hz
          have hz1 : z - 1 < (d.size : Int) := by omega
          have hz2 : z < (d.size : Int) := by omega
          have ea23 : (z).toNat = m - q := by omega
          have pa23 : (0 : Int) ≤ z := by omega
          have ba23 : z < (d.size : Int) := by omega
          have ra23 : IntKind.i64.wrap (z) = z := by rw [IntKind.wrap_i64]; omega
          have ec23 : (z - 1).toNat = m - q - 1 := by omega
          have pc23 : (0 : Int) ≤ z - 1 := by omega
          have bc23 : z - 1 < (d.size : Int) := by omega
          have rc23 : IntKind.i64.wrap (z - 1) = z - 1 := by rw [IntKind.wrap_i64]; omega
          have S2 : Aside (SWK enc k w0 blk off (swp dk (m - q) (m - q - 1)) ((wr.drew.setCells blk (off + (m - q) * k) (enc dk[m - q - 1]!)).setCells blk (off + (m - q - 1) * k) (enc dk[m - q]!))) := S1.out.swapped R (m - q) (m - q - 1) (by omega) (by omega)
          have l23a := S1.out.ld1 R (by omega) P (m - q) (by omega)
          have l23b := S1.out.ld1 R (by omega) P (m - q - 1) (by omega)
          have s23a := S1.out.st1 R (by omega) P (m - q) (by omega) dk[m - q - 1]!
          have s23b := S1.out.st2 R (by omega) P (m - q) (m - q - 1) (by omega) (by omega) dk[m - q - 1]! dk[m - q]!
          have n23a : (enc dk[m - q]!).length = k := R.hk _
          have n23b : (enc dk[m - q - 1]!).length = k := R.hk _
          generalize enc dk[m - q]! = cI23 at S2 l23a s23b n23a
          generalize enc dk[m - q - 1]! = cJ23 at S2 l23b s23a s23b n23b
          clear S1
          go_wp2_with fail
          go_big_region_o
          all_goals clear l23a l23b s23a s23b
          generalize (wr.drew.setCells blk (off + (m - q) * k) cJ23).setCells blk (off + (m - q - 1) * k) cI23 = w2 at S2 ⊢
          go_wp2
          go_roundg (m - j - (q + 1))
          case measure => omega
          case rel => exact ⟨q + 1, _, rfl, by omega, by omega, Nat.le_refl _, by rw [HD.out]; exact S2⟩
        · skip
          have hltz : ¬ (j : Int) < z := by omega
          go_wp2
          go_end0
          obtain rfl : b = m + 1 := by omega
          obtain rfl : q = m - j := by omega
          exact ⟨rfl, _, shDn_perm d m a (m + 1) (by omega) hb _ (by omega), ins_dn HO.out H1.out hai hjm HI.out HJ.out (fun p => shDn_get d m (by omega) _ (by omega) p), S1.out⟩
end Go.Proofs.Ytdlphgknplomkaa
