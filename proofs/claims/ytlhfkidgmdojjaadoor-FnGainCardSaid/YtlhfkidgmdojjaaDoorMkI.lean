/- The contract of the program's Trade. No statement is proved here. -/
import Derived.Test.YtlhfkidgmdojjaaDoorMkB
import Derived.Test.YtlhfkidgmdojjaaDoorMkL
import Derived.RegionTactic
import Derived.BigQuiet
import Derived.Deep.Light
namespace Go.Proofs.YtlhfkidgmdojjaaDoor
open Go.RowKit

theorem made_ints (n : Nat) : (madeCells (Value.int .i64 0).cells (n * 1)).toList = ints (zeros n) := by
  rw [zeros_ints]; simp [Value.cells, toList_madeCells_one]
theorem rd_emptyN {w : World} {A : Option Addr} {l : List Nat} (h : l.length = 0) : Rd w A (ints (nats l)) := by
  rw [List.eq_nil_of_length_eq_zero h]; exact Rd.nil
theorem rd_tailN {w : World} {x o a : Nat} {ra : List Nat} (h : Rd w (some ⟨x, o, none⟩) (ints (nats (a :: ra)))) : Rd w (some ⟨x, o + 1, none⟩) (ints (nats ra)) := by
  intro h0
  obtain ⟨b, o', e, hl, hc⟩ := h (by simp [ints, nats])
  cases e
  refine ⟨x, o + 1, rfl, hl, fun k u hu => ?_⟩
  have := hc (k + 1) u (by simpa [ints, nats] using hu)
  rwa [show o + (k + 1) = o + 1 + k by omega] at this
theorem rd_far2 {w : World} {x o g g' j j' : Nat} {u u' : Value} {cs : List Value} (h : Rd w (some ⟨x, o, none⟩) cs) (h1 : x ≠ g) (h2 : x ≠ g') : Rd ((w.setCell ⟨g, j, none⟩ u).setCell ⟨g', j', none⟩ u') (some ⟨x, o, none⟩) cs := by
  intro h0
  obtain ⟨b, o', e, hl, hc⟩ := h h0
  cases e
  refine ⟨x, o, rfl, by simpa [World.setCell] using hl, fun k v hv => ?_⟩
  have e1 := World.cell?_setCell_other (w.setCell ⟨g, j, none⟩ u) ⟨g', j', none⟩ ⟨x, o + k, none⟩ u' (by intro e; exact h2 (congrArg Addr.block e).symm)
  have e2 := World.cell?_setCell_other w ⟨g, j, none⟩ ⟨x, o + k, none⟩ u (by intro e; exact h1 (congrArg Addr.block e).symm)
  exact e1.trans (e2.trans (hc k v hv))
theorem made_size {n : Nat} {M : Array Value} (h : M.toList = ints (zeros n)) : M.size = n * 1 := by
  have := congrArg List.length h
  simpa [ints, zeros] using this
set_option maxRecDepth 100000 in
set_option maxHeartbeats 4000000 in
theorem implTr_ok (A B : Option Addr) (n1 n2 c1 c2 : Nat) (asks bids : List Order) (w : World) (hn1 : asks.length = n1) (hn2 : bids.length = n2) (hA : Rd w A (flatOrder asks)) (hB : Rd w B (flatOrder bids)) (hva : sideB asks = true) (hvb : sideB bids = true) :
    Calls Tryd.prog 8 #[.slice A n1 c1, .slice B n2 c2] w (RetTT (trade asks bids).1 (trade asks bids).2 w) := by
  have h61 := side_len hva
  have h62 := side_len hvb
  have hm1 : n1 ≤ 6 := by omega
  have hm2 : n2 ≤ 6 := by omega
  have HA := Lib.hid hA; clear hA
  have HB := Lib.hid hB; clear hB
  have HN1 := Lib.hid hn1; clear hn1 h61
  have HN2 := Lib.hid hn2; clear hn2 h62
  have HVA := Lib.hid hva; clear hva
  have HVB := Lib.hid hvb; clear hvb
  obtain ⟨i0, hi0, hz0, hz1, hz2⟩ := info_parts info_int
  have hmk : ∀ n : Nat, n ≤ 6 → ∀ w : World, (Instr.makeSlice 26 (.int .i64 (n : Int)) (.int .i64 (n : Int))).run Tryd.prog w = .ok (.slice (some ⟨w.heap.size, 0, none⟩) n n) (w.alloc (.cells (madeCells (Value.int .i64 0).cells (n * 1)) 3)) := by
    intro n hn w
    have h := run_makeSlice (P := Tryd.prog) (w := w) 26 3 i0 (.int .i64 0) Tryd.underlying26 hi0 hz0 .i64 .i64 (n : Int) (n : Int) (by omega) (by omega) (by rw [hz1]; simp; omega) (by rw [hz2]; omega) (by omega)
    rw [hz1] at h
    simpa using h
  have hmk1 := hmk n1 hm1
  have hmk2 := hmk n2 hm2
  have Z1 := Lib.hid (made_ints n1)
  have Z2 := Lib.hid (made_ints n2)
  generalize madeCells (Value.int .i64 0).cells (n1 * 1) = M1 at *
  generalize madeCells (Value.int .i64 0).cells (n2 * 1) = M2 at *
  clear hmk hi0 hz0 hz1 hz2
  go_enter Tryd.func8, Tryd.ntmps8
  go_wp2_with fail
  refine (implSdV A n1 c1 asks _ HN1.out (by omega) HA.out).mono ?_
  rintro e w1 ⟨rfl, hb1⟩
  rw [val_side, HVA.out]
  go_wp2_with fail
  refine (implSdV B n2 c2 bids _ HN2.out (by omega) (HB.out.below hb1)).mono ?_
  rintro e w2 ⟨rfl, hbn⟩
  rw [val_side, HVB.out]
  replace hb1 := seqB hb1 hbn
  clear hbn
  go_wp2_with fail
  go_region
  all_goals (go_wp2_with fail)
  · have ho1 : Own ((w2.alloc (.cells M1 3)).alloc (.cells M2 3)).drew w.heap.size 3 1 (some ⟨w2.heap.size, 0, none⟩) n1 (ints (zeros n1)) := by
      have h := (World.ownsRow_lit (base := w.heap.size) (e := 3) (size := 1) w2 M1 n1 hb1.size (by unfold maxLen; omega) (made_size Z1.out)).alloc (.cells M2 3)
      rw [Z1.out] at h
      obtain ⟨_, _, e, ho⟩ := own_of_row h
      cases e; exact ho
    have ho2 : Own ((w2.alloc (.cells M1 3)).alloc (.cells M2 3)).drew w.heap.size 3 1 (some ⟨w2.heap.size + 1, 0, none⟩) n2 (ints (zeros n2)) := by
      have h := World.ownsRow_lit (base := w.heap.size) (e := 3) (size := 1) (w2.alloc (.cells M1 3)) M2 n2 (by have := hb1.size; simp; omega) (by unfold maxLen; omega) (made_size Z2.out)
      rw [Z2.out, show (w2.alloc (.cells M1 3)).heap.size = w2.heap.size + 1 by simp] at h
      obtain ⟨_, _, e, ho⟩ := own_of_row h
      cases e; exact ho
    have hbW : Below w.heap.size w ((w2.alloc (.cells M1 3)).alloc (.cells M2 3)).drew := drew1B (allocB (allocB hb1 _) _)
    have hwg := hb1.size
    have hwW : w2.heap.size + 2 ≤ ((w2.alloc (.cells M1 3)).alloc (.cells M2 3)).drew.heap.size := by simp
    generalize ((w2.alloc (.cells M1 3)).alloc (.cells M2 3)).drew = W at *
    clear hb1 hmk1 hmk2 Z1 Z2
    generalize w2.heap.size = g at *
    refine (implBP 1 false (.inl ⟨rfl, rfl⟩) A n1 c1 asks _ HN1.out hm1 (HA.out.below hbW)).mono ?_
    rintro e w3 ⟨ysL, gL, rfl, hL1, hL2, hL3, hLo, hbn⟩
    have HL := Lib.hid (And.intro hL1 (And.intro hL2 hL3)); clear hL1 hL2 hL3
    have hLg : 0 < n1 → g + 2 ≤ gL := fun h => by have := hLo.ge (Nat.le_refl _) _ h rfl; simp at this; omega
    replace ho1 := ho1.below hbn
    replace ho2 := ho2.below hbn
    replace hbW := seqB hbW hbn
    have hwW' := hbn.size
    clear hbn
    go_wp2_with fail
    refine (implBP (-1) true (.inr ⟨rfl, rfl⟩) B n2 c2 bids _ HN2.out hm2 (HB.out.below hbW)).mono ?_
    rintro e w4 ⟨ysH, gH, rfl, hH1, hH2, hH3, hHo, hbn⟩
    have HH := Lib.hid (And.intro hH1 (And.intro hH2 hH3)); clear hH1 hH2 hH3
    have hHg : 0 < n2 → g + 2 ≤ gH := fun h => by have := hHo.ge (Nat.le_refl _) _ h rfl; simp at this; omega
    replace ho1 := ho1.below hbn
    replace ho2 := ho2.below hbn
    replace hLo := hLo.below hbn
    replace hbW := seqB hbW hbn
    clear hbn hwW hwW'
    have H0 : Hid (TInv asks bids (zeros n1) (zeros n2) ∧ tradeU asks bids (units asks).toNat (zeros n1) (zeros n2) = trade asks bids ∧ LowInv asks (zeros n1) false ysL ∧ LowInv bids (zeros n2) true ysH) := by
      have h1 := low_zero HVA.out HL.out.2.1 (fun k => by rw [HL.out.2.2 k, HN1.out])
      have h2 := low_zero HVB.out HH.out.2.1 (fun k => by rw [HH.out.2.2 k, HN2.out])
      rw [HN1.out] at h1
      rw [HN2.out] at h2
      refine ⟨?_, ?_, h1, h2⟩
      · rw [← HN1.out, ← HN2.out]; exact tinv_zeros HVA.out HVB.out
      · rw [← HN1.out, ← HN2.out]; rfl
    have hLR := hLo.rd
    have hHR := hHo.rd
    clear hLo hHo
    go_wp2_with fail
    go_loopg [8, 9] (units asks).toNat (fun f vl vh wr => ∃ (s t : List Int) (lo hi : List Nat) (AL AH : Option Addr) (cl ch : Nat), vl = .slice AL lo.length cl ∧ lo.length ≤ cl ∧ vh = .slice AH hi.length ch ∧ hi.length ≤ ch ∧ Hid (TInv asks bids s t ∧ tradeU asks bids f s t = trade asks bids ∧ LowInv asks s false lo ∧ LowInv bids t true hi) ∧ Own wr w.heap.size 3 1 (some ⟨g, 0, none⟩) n1 (ints s) ∧ Own wr w.heap.size 3 1 (some ⟨g + 1, 0, none⟩) n2 (ints t) ∧ Rd wr AL (ints (nats lo)) ∧ Rd wr AH (ints (nats hi)) ∧ (∀ a, 0 < lo.length → AL = some a → g + 2 ≤ a.block) ∧ (∀ a, 0 < hi.length → AH = some a → g + 2 ≤ a.block) ∧ Below w.heap.size w wr)
    case atStart => exact ⟨_, _, ysL, ysH, some ⟨gL, 0, none⟩, some ⟨gH, 0, none⟩, n1, n2, by rw [HL.out.1], by rw [HL.out.1]; exact Nat.le_refl _, by rw [HH.out.1], by rw [HH.out.1]; exact Nat.le_refl _, H0, ho1, ho2, hLR, hHR, fun a h e => by cases e; exact hLg (by rw [HL.out.1] at h; exact h), fun a h e => by cases e; exact hHg (by rw [HH.out.1] at h; exact h), hbW⟩
    case round =>
      clear ho1 ho2 hLR hHR hLg hHg H0 HL HH hbW
      obtain ⟨s, t, lo, hi, AL, AH, cl, ch, rfl, hcl, rfl, hch, HT, ho1, ho2, hLR0, hHR0, hLg0, hHg0, hbW⟩ := hrel
      have hLR := Lib.hid hLR0; have hHR := Lib.hid hHR0; have hLg := Lib.hid hLg0; have hHg := Lib.hid hHg0
      clear hLR0 hHR0 hLg0 hHg0
      have STOP : Hid ((lo = [] ∨ hi = [] ∨ ∃ a ra b rb, lo = a :: ra ∧ hi = b :: rb ∧ (oAt bids b).fPrice < (oAt asks a).fPrice) → ∀ q : Nat, RetTT (trade asks bids).1 (trade asks bids).2 w (.returned (.tuple #[.slice (some ⟨g, 0, none⟩) n1 n1, .slice (some ⟨g + 1, 0, none⟩) n2 n2])) (wr.drewN q)) := by
        intro h q
        have e := HT.out.2.1
        rw [low_stop HT.out.2.2.1 HT.out.2.2.2 h] at e
        rw [← e]
        have l1 := own_len ho1
        have l2 := own_len ho2
        refine ⟨some ⟨g, 0, none⟩, n1, some ⟨g + 1, 0, none⟩, n2, ?_, ?_, ?_, ?_, drewNB hbW q⟩
        · rw [l1, l2]
        · rw [l1]; exact ho1
        · rw [l2]; exact ho2
        · intro a a' _ _ ea ed; cases ea; cases ed; simp
      cases lo with
      | nil =>
        have HS := Lib.hid (STOP.out (.inl rfl) 0)
        clear STOP
        go_wp2_with fail
        go_ret2
        exact HS.out
      | cons a ra =>
        cases hi with
        | nil =>
          have HS := Lib.hid (STOP.out (.inr (.inl rfl)) 0)
          clear STOP
          have hx : (0 : Int) < ((a :: ra).length : Int) := by rw [List.length_cons]; omega
          generalize (a :: ra).length = nl at *
          go_wp2_with fail
          go_ret2
          exact HS.out
        | cons b rb =>
          have ha := (HT.out.2.2.1.1 a).1 (by simp)
          have hb := (HT.out.2.2.2.1 b).1 (by simp)
          obtain ⟨xl, ol, rfl, _, hl0⟩ := hLR.out.int (k := 0) (by simp [nats])
          obtain ⟨xh, oh, rfl, _, hh0⟩ := hHR.out.int (k := 0) (by simp [nats])
          simp [nats] at hl0 hh0
          have hx1 : (0 : Int) < ((a :: ra).length : Int) := by rw [List.length_cons]; omega
          have hx2 : (0 : Int) < ((b :: rb).length : Int) := by rw [List.length_cons]; omega
          have han : (a : Int) < (n1 : Int) := by have := HN1.out; omega
          have hbn : (b : Int) < (n2 : Int) := by have := HN2.out; omega
          have ha0 : (0 : Int) ≤ (a : Int) := by omega
          have hb0 : (0 : Int) ≤ (b : Int) := by omega
          obtain ⟨x1, o1, rfl, _, hp1, hm1'⟩ := (HA.out.below hbW).atOrder (k := a) (by have := HN1.out; omega)
          obtain ⟨x2, o2, rfl, _, hp2, hm2'⟩ := (HB.out.below hbW).atOrder (k := b) (by have := HN2.out; omega)
          have ha2 : a < n1 := by omega
          have hb2 : b < n2 := by omega
          generalize hP1 : (asks.getD a Order.zero).fPrice = P1 at *
          generalize hP2 : (bids.getD b Order.zero).fPrice = P2 at *
          generalize hM1 : (asks.getD a Order.zero).fMany = MA at *
          generalize hM2 : (bids.getD b Order.zero).fMany = MB at *
          have HP : Hid ((oAt asks a).fPrice = P1 ∧ (oAt bids b).fPrice = P2) := ⟨hP1, hP2⟩
          have HM : Hid ((oAt asks a).fMany = MA ∧ (oAt bids b).fMany = MB) := ⟨hM1, hM2⟩
          clear hP1 hP2 hM1 hM2
          have HAB := Lib.hid (And.intro ha hb); clear ha hb
          have HLEN := Lib.hid (And.intro (show (a :: ra).length = ra.length + 1 from rfl) (show (b :: rb).length = rb.length + 1 from rfl))
          by_cases hle : P1 ≤ P2
          case neg =>
            have hd : P2 < P1 := by omega
            have HS := Lib.hid (STOP.out (.inr (.inr ⟨a, ra, b, rb, rfl, rfl, by rw [HP.out.1, HP.out.2]; exact hd⟩)))
            clear STOP
            generalize (a :: ra).length = nl at *
            generalize (b :: rb).length = nh at *
            go_wp2_with fail
            go_quiet (fail)
            go_wp2_with fail
            go_quiet (fail)
            go_wp2_with fail
            go_ret2
            first | exact HS.out _ | (rw [World.drewN_drewN]; exact HS.out _)
          have hd : decide (P2 < P1) = false := decide_eq_false (by omega)
          clear STOP
          obtain ⟨hd1, hd2⟩ := own_int ho1 ha2
          obtain ⟨he1, he2⟩ := own_int ho2 hb2
          have hS : 0 ≤ dAt s a ∧ dAt s a < MA ∧ MA ≤ 999 := by
            have h1 := HT.out.1.ds.2 a HAB.out.1.1
            have h2 := side_at HVA.out HAB.out.1.1
            have h3 := left_iff.1 HAB.out.1.2
            rw [HM.out.1] at h1 h2 h3
            omega
          have hTT : 0 ≤ dAt t b ∧ dAt t b < MB ∧ MB ≤ 999 := by
            have h1 := HT.out.1.dt.2 b HAB.out.2.1
            have h2 := side_at HVB.out HAB.out.2.1
            have h3 := left_iff.1 HAB.out.2.2
            rw [HM.out.2] at h1 h2 h3
            omega
          generalize hSS : dAt s a = S at *
          generalize hST : dAt t b = T at *
          have HSS := Lib.hid (And.intro hSS hST); clear hSS hST
          have hnl := Lib.hid (Eq.refl (a :: ra).length)
          generalize hnlx : (a :: ra).length = nl at *
          generalize hnhx : (b :: rb).length = nh at *
          have HNL := Lib.hid (And.intro hnlx hnhx); clear hnlx hnhx hnl
          have wr1 : IntKind.i64.wrap (MA - S) = MA - S := IntWalk.i64_in _ (by omega)
          have wr2 : IntKind.i64.wrap (MB - T) = MB - T := IntWalk.i64_in _ (by omega)
          go_wp2_with fail
          go_quiet (fail)
          replace ho1 : Own (wr.drewN nq) _ _ _ _ _ _ := ho1
          replace ho2 : Own (wr.drewN nq) _ _ _ _ _ _ := ho2
          replace hbW := drewNB hbW nq
          replace hLR := Lib.hid (show Rd (wr.drewN nq) _ _ from hLR.out)
          replace hHR := Lib.hid (show Rd (wr.drewN nq) _ _ from hHR.out)
          replace hl0 : (wr.drewN nq).cell? _ = _ := hl0
          replace hh0 : (wr.drewN nq).cell? _ = _ := hh0
          replace hp1 : (wr.drewN nq).cell? _ = _ := hp1
          replace hm1' : (wr.drewN nq).cell? _ = _ := hm1'
          replace hp2 : (wr.drewN nq).cell? _ = _ := hp2
          replace hm2' : (wr.drewN nq).cell? _ = _ := hm2'
          replace hd1 : (wr.drewN nq).cell? _ = _ := hd1
          replace he1 : (wr.drewN nq).cell? _ = _ := he1
          replace hd2 : (wr.drewN nq).frozen? _ = _ := hd2
          replace he2 : (wr.drewN nq).frozen? _ = _ := he2
          generalize wr.drewN nq = wa at *
          go_wp2_with fail
          go_quiet (fail)
          replace ho1 : Own (wa.drewN nq) _ _ _ _ _ _ := ho1
          replace ho2 : Own (wa.drewN nq) _ _ _ _ _ _ := ho2
          replace hbW := drewNB hbW nq
          replace hLR := Lib.hid (show Rd (wa.drewN nq) _ _ from hLR.out)
          replace hHR := Lib.hid (show Rd (wa.drewN nq) _ _ from hHR.out)
          replace hl0 : (wa.drewN nq).cell? _ = _ := hl0
          replace hh0 : (wa.drewN nq).cell? _ = _ := hh0
          replace hp1 : (wa.drewN nq).cell? _ = _ := hp1
          replace hm1' : (wa.drewN nq).cell? _ = _ := hm1'
          replace hp2 : (wa.drewN nq).cell? _ = _ := hp2
          replace hm2' : (wa.drewN nq).cell? _ = _ := hm2'
          replace hd1 : (wa.drewN nq).cell? _ = _ := hd1
          replace he1 : (wa.drewN nq).cell? _ = _ := he1
          replace hd2 : (wa.drewN nq).frozen? _ = _ := hd2
          replace he2 : (wa.drewN nq).frozen? _ = _ := he2
          generalize wa.drewN nq = wb at *
          go_wp2_with fail
          go_quiet (fail)
          replace ho1 : Own (wb.drewN nq) _ _ _ _ _ _ := ho1
          replace ho2 : Own (wb.drewN nq) _ _ _ _ _ _ := ho2
          replace hbW := drewNB hbW nq
          replace hLR := Lib.hid (show Rd (wb.drewN nq) _ _ from hLR.out)
          replace hHR := Lib.hid (show Rd (wb.drewN nq) _ _ from hHR.out)
          replace hl0 : (wb.drewN nq).cell? _ = _ := hl0
          replace hh0 : (wb.drewN nq).cell? _ = _ := hh0
          replace hp1 : (wb.drewN nq).cell? _ = _ := hp1
          replace hm1' : (wb.drewN nq).cell? _ = _ := hm1'
          replace hp2 : (wb.drewN nq).cell? _ = _ := hp2
          replace hm2' : (wb.drewN nq).cell? _ = _ := hm2'
          replace hd1 : (wb.drewN nq).cell? _ = _ := hd1
          replace he1 : (wb.drewN nq).cell? _ = _ := he1
          replace hd2 : (wb.drewN nq).frozen? _ = _ := hd2
          replace he2 : (wb.drewN nq).frozen? _ = _ := he2
          generalize wb.drewN nq = wc at *
          obtain ⟨m, hmm, hm0, hmA, hmB, hmE⟩ : ∃ m : Nat, min (MA - S) (MB - T) = (m : Int) ∧ 1 ≤ m ∧ (m : Int) ≤ MA - S ∧ (m : Int) ≤ MB - T ∧ ((m : Int) = MA - S ∨ (m : Int) = MB - T) := ⟨(min (MA - S) (MB - T)).toNat, by omega, by omega, by omega, by omega, by omega⟩
          rw [hmm]
          clear hmm
          have HU := Lib.hid (round_units HVA.out HVB.out (m := m) HT.out.1 HT.out.2.1 HT.out.2.2.1.head HT.out.2.2.2.head (by rw [HP.out.1, HP.out.2]; exact hle) (by rw [HSS.out.1, HM.out.1]; omega) (by rw [HSS.out.2, HM.out.2]; omega))
          rw [Hid, HSS.out.1, HSS.out.2] at HU
          have HUU := Lib.hid HU; clear HU
          have oA : Own ((wc.setCell ⟨g, a, none⟩ (.int .i64 (S + m))).setCell ⟨g + 1, b, none⟩ (.int .i64 (T + m))) w.heap.size 3 1 (some ⟨g, 0, none⟩) n1 (ints (s.set a (S + m))) := by
            rw [← ints_set]
            exact own_other (ho1.set a _) (by omega)
          have oB : Own ((wc.setCell ⟨g, a, none⟩ (.int .i64 (S + m))).setCell ⟨g + 1, b, none⟩ (.int .i64 (T + m))) w.heap.size 3 1 (some ⟨g + 1, 0, none⟩) n2 (ints (t.set b (T + m))) := by
            rw [← ints_set]
            exact (own_other ho2 (by omega)).set b _
          have hbF : Below w.heap.size w ((wc.setCell ⟨g, a, none⟩ (.int .i64 (S + m))).setCell ⟨g + 1, b, none⟩ (.int .i64 (T + m))) := ((hbW.setCell (p := ⟨g, a, none⟩) (by simp; omega) _).setCell (p := ⟨g + 1, b, none⟩) (by simp; omega) _)
          have hLF : Rd ((wc.setCell ⟨g, a, none⟩ (.int .i64 (S + m))).setCell ⟨g + 1, b, none⟩ (.int .i64 (T + m))) (some ⟨xl, ol, none⟩) (ints (nats (a :: ra))) := rd_far2 hLR.out (by have := hLg.out _ (by rw [← HNL.out.1]; simp) rfl; simp at this; omega) (by have := hLg.out _ (by rw [← HNL.out.1]; simp) rfl; simp at this; omega)
          have hHF : Rd ((wc.setCell ⟨g, a, none⟩ (.int .i64 (S + m))).setCell ⟨g + 1, b, none⟩ (.int .i64 (T + m))) (some ⟨xh, oh, none⟩) (ints (nats (b :: rb))) := rd_far2 hHR.out (by have := hHg.out _ (by rw [← HNL.out.2]; simp) rfl; simp at this; omega) (by have := hHg.out _ (by rw [← HNL.out.2]; simp) rfl; simp at this; omega)
          go_wp2_with fail
          clear hl0 hh0 hp1 hm1' hp2 hm2' hd1 hd2 he1 he2 ho1 ho2 hLR hHR hbW
          generalize ((wc.setCell ⟨g, a, none⟩ (.int .i64 (S + m))).setCell ⟨g + 1, b, none⟩ (.int .i64 (T + m))) = wz at *
          obtain ⟨kA, _⟩ := own_int oA ha2
          obtain ⟨kB, _⟩ := own_int oB hb2
          rw [dAt_set _ _ _ _ (by rw [HT.out.1.ds.1]; exact HAB.out.1.1), if_pos rfl] at kA
          rw [dAt_set _ _ _ _ (by rw [HT.out.1.dt.1]; exact HAB.out.2.1), if_pos rfl] at kB
          obtain ⟨_, _, e1, _, _, jA⟩ := (HA.out.below hbF).atOrder (k := a) (by rw [HN1.out]; exact ha2)
          cases e1
          obtain ⟨_, _, e1, _, _, jB⟩ := (HB.out.below hbF).atOrder (k := b) (by rw [HN2.out]; exact hb2)
          cases e1
          rw [show (asks.getD a Order.zero).fMany = MA from HM.out.1] at jA
          rw [show (bids.getD b Order.zero).fMany = MB from HM.out.2] at jB
          have HLA : Hid (S + m < MA → LowInv asks (s.set a (S + m)) false (a :: ra)) := fun h => low_stay HT.out.2.2.1 HT.out.1.ds.1 (by rw [HM.out.1]; exact h)
          have HLA' : Hid (S + m = MA → LowInv asks (s.set a (S + m)) false ra) := fun h => low_next HT.out.2.2.1 HT.out.1.ds.1 (by rw [HM.out.1]; exact h)
          have HLB : Hid (T + m < MB → LowInv bids (t.set b (T + m)) true (b :: rb)) := fun h => low_stay HT.out.2.2.2 HT.out.1.dt.1 (by rw [HM.out.2]; exact h)
          have HLB' : Hid (T + m = MB → LowInv bids (t.set b (T + m)) true rb) := fun h => low_next HT.out.2.2.2 HT.out.1.dt.1 (by rw [HM.out.2]; exact h)
          have HLN := Lib.hid (show nl = ra.length + 1 ∧ nh = rb.length + 1 from ⟨by rw [← HNL.out.1]; rfl, by rw [← HNL.out.2]; rfl⟩)
          have hnl0 : 1 ≤ (nl : Int) := by have := HLN.out.1; omega
          have hnh0 : 1 ≤ (nh : Int) := by have := HLN.out.2; omega
          have HLG : Hid (g + 2 ≤ xl ∧ g + 2 ≤ xh) := ⟨by have := hLg.out _ (by rw [← HNL.out.1]; simp) rfl; simpa using this, by have := hHg.out _ (by rw [← HNL.out.2]; simp) rfl; simpa using this⟩
          clear HT hLg hHg HAB
          generalize s.set a (S + m) = s' at *
          generalize t.set b (T + m) = t' at *
          have hLT := Lib.hid (rd_tailN hLF)
          have hHT := Lib.hid (rd_tailN hHF)
          have HLF := Lib.hid hLF; have HHF := Lib.hid hHF; clear hLF hHF
          by_cases hA1 : S + m = MA
          · have qA : (S + m == MA) = true := by simpa using hA1
            go_quiet (fail)
            replace oA : Own (wz.drewN nq) _ _ _ _ _ _ := oA
            replace oB : Own (wz.drewN nq) _ _ _ _ _ _ := oB
            replace hbF := drewNB hbF nq
            replace hLT := Lib.hid (show Rd (wz.drewN nq) _ _ from hLT.out)
            replace hHT := Lib.hid (show Rd (wz.drewN nq) _ _ from hHT.out)
            replace HLF := Lib.hid (show Rd (wz.drewN nq) _ _ from HLF.out)
            replace HHF := Lib.hid (show Rd (wz.drewN nq) _ _ from HHF.out)
            replace kA : (wz.drewN nq).cell? _ = _ := kA
            replace kB : (wz.drewN nq).cell? _ = _ := kB
            replace jA : (wz.drewN nq).cell? _ = _ := jA
            replace jB : (wz.drewN nq).cell? _ = _ := jB
            generalize wz.drewN nq = wy at *
            by_cases hcc : cl = 1
            · have hcc0 := hcc
              have hnl1 : nl = 1 := by have := HLN.out.1; omega
              subst hnl1
              subst hcc
              go_wp2_with fail
              by_cases hB1 : T + m = MB
              · have qB : (T + m == MB) = true := by simpa using hB1
                go_quiet (fail)
                replace oA : Own (wy.drewN nq) _ _ _ _ _ _ := oA
                replace oB : Own (wy.drewN nq) _ _ _ _ _ _ := oB
                replace hbF := drewNB hbF nq
                replace hLT := Lib.hid (show Rd (wy.drewN nq) _ _ from hLT.out)
                replace hHT := Lib.hid (show Rd (wy.drewN nq) _ _ from hHT.out)
                replace HLF := Lib.hid (show Rd (wy.drewN nq) _ _ from HLF.out)
                replace HHF := Lib.hid (show Rd (wy.drewN nq) _ _ from HHF.out)
                replace kA : (wy.drewN nq).cell? _ = _ := kA
                replace kB : (wy.drewN nq).cell? _ = _ := kB
                replace jA : (wy.drewN nq).cell? _ = _ := jA
                replace jB : (wy.drewN nq).cell? _ = _ := jB
                generalize wy.drewN nq = wx at *
                by_cases hdd : ch = 1
                · have hnh1 : nh = 1 := by have := HLN.out.2; omega
                  subst hnh1
                  subst hdd
                  go_wp2_with fail
                  go_roundg (gk - m)
                  case measure => have := HUU.out.1; omega
                  case rel =>
                    go_light
                    have e1 : ra.length = 0 := by have := HLN.out.1; omega
                    have e2 : rb.length = 0 := by have := HLN.out.2; omega
                    have f1 : ra.length ≤ 0 := (by rw [e1]; exact Nat.zero_le _)
                    have f2 : rb.length ≤ 0 := (by rw [e2]; exact Nat.zero_le _)
                    have f3 : Rd wx (some ⟨xl, ol, none⟩) (ints (nats ra)) := rd_emptyN e1
                    have f4 : Rd wx (some ⟨xh, oh, none⟩) (ints (nats rb)) := rd_emptyN e2
                    have f5 : ∀ ad : Addr, 0 < ra.length → (some ⟨xl, ol, none⟩) = some ad → g + 2 ≤ ad.block := (fun ad h _ => by rw [e1] at h; exact absurd h (Nat.lt_irrefl 0))
                    have f6 : ∀ ad : Addr, 0 < rb.length → (some ⟨xh, oh, none⟩) = some ad → g + 2 ≤ ad.block := (fun ad h _ => by rw [e2] at h; exact absurd h (Nat.lt_irrefl 0))
                    have f7 := HLA'.out hA1
                    have f8 := HLB'.out hB1
                    exact ⟨s', t', ra, rb, (some ⟨xl, ol, none⟩), (some ⟨xh, oh, none⟩), 0, 0, by rw [e1], f1, by rw [e2], f2, ⟨HUU.out.2.1, HUU.out.2.2, f7, f8⟩, oA, oB, f3, f4, f5, f6, hbF⟩
                · have hdd0 := hdd
                  go_wp2_with fail
                  go_roundg (gk - m)
                  case measure => have := HUU.out.1; omega
                  case rel =>
                    go_light
                    have e1 : ra.length = 0 := by have := HLN.out.1; omega
                    have e2 : nh - 1 = rb.length := by have := HLN.out.2; omega
                    have f1 : ra.length ≤ 0 := (by rw [e1]; exact Nat.zero_le _)
                    have f2 : rb.length ≤ (ch - 1) := (by rw [← e2]; omega)
                    have f3 : Rd wx (some ⟨xl, ol, none⟩) (ints (nats ra)) := rd_emptyN e1
                    have f4 : Rd wx (some ⟨xh, oh + 1, none⟩) (ints (nats rb)) := hHT.out
                    have f5 : ∀ ad : Addr, 0 < ra.length → (some ⟨xl, ol, none⟩) = some ad → g + 2 ≤ ad.block := (fun ad h _ => by rw [e1] at h; exact absurd h (Nat.lt_irrefl 0))
                    have f6 : ∀ ad : Addr, 0 < rb.length → (some ⟨xh, oh + 1, none⟩) = some ad → g + 2 ≤ ad.block := (fun ad _ e => by cases e; exact HLG.out.2)
                    have f7 := HLA'.out hA1
                    have f8 := HLB'.out hB1
                    exact ⟨s', t', ra, rb, (some ⟨xl, ol, none⟩), (some ⟨xh, oh + 1, none⟩), 0, (ch - 1), by rw [e1], f1, by rw [e2], f2, ⟨HUU.out.2.1, HUU.out.2.2, f7, f8⟩, oA, oB, f3, f4, f5, f6, hbF⟩
              · have qB : (T + m == MB) = false := by simpa using hB1
                go_quiet (fail)
                replace oA : Own (wy.drewN nq) _ _ _ _ _ _ := oA
                replace oB : Own (wy.drewN nq) _ _ _ _ _ _ := oB
                replace hbF := drewNB hbF nq
                replace hLT := Lib.hid (show Rd (wy.drewN nq) _ _ from hLT.out)
                replace hHT := Lib.hid (show Rd (wy.drewN nq) _ _ from hHT.out)
                replace HLF := Lib.hid (show Rd (wy.drewN nq) _ _ from HLF.out)
                replace HHF := Lib.hid (show Rd (wy.drewN nq) _ _ from HHF.out)
                replace kA : (wy.drewN nq).cell? _ = _ := kA
                replace kB : (wy.drewN nq).cell? _ = _ := kB
                replace jA : (wy.drewN nq).cell? _ = _ := jA
                replace jB : (wy.drewN nq).cell? _ = _ := jB
                generalize wy.drewN nq = wx at *
                go_wp2_with fail
                go_roundg (gk - m)
                case measure => have := HUU.out.1; omega
                case rel =>
                  go_light
                  have e1 : ra.length = 0 := by have := HLN.out.1; omega
                  have e2 : (b :: rb).length = nh := HNL.out.2
                  have f1 : ra.length ≤ 0 := (by rw [e1]; exact Nat.zero_le _)
                  have f2 : (b :: rb).length ≤ ch := (by rw [e2]; exact hch)
                  have f3 : Rd wx (some ⟨xl, ol, none⟩) (ints (nats ra)) := rd_emptyN e1
                  have f4 : Rd wx (some ⟨xh, oh, none⟩) (ints (nats (b :: rb))) := HHF.out
                  have f5 : ∀ ad : Addr, 0 < ra.length → (some ⟨xl, ol, none⟩) = some ad → g + 2 ≤ ad.block := (fun ad h _ => by rw [e1] at h; exact absurd h (Nat.lt_irrefl 0))
                  have f6 : ∀ ad : Addr, 0 < (b :: rb).length → (some ⟨xh, oh, none⟩) = some ad → g + 2 ≤ ad.block := (fun ad _ e => by cases e; exact HLG.out.2)
                  have f7 := HLA'.out hA1
                  have f8 := HLB.out (by omega)
                  exact ⟨s', t', ra, (b :: rb), (some ⟨xl, ol, none⟩), (some ⟨xh, oh, none⟩), 0, ch, by rw [e1], f1, by rw [e2], f2, ⟨HUU.out.2.1, HUU.out.2.2, f7, f8⟩, oA, oB, f3, f4, f5, f6, hbF⟩
            · have hcc0 := hcc
              go_wp2_with fail
              by_cases hB1 : T + m = MB
              · have qB : (T + m == MB) = true := by simpa using hB1
                go_quiet (fail)
                replace oA : Own (wy.drewN nq) _ _ _ _ _ _ := oA
                replace oB : Own (wy.drewN nq) _ _ _ _ _ _ := oB
                replace hbF := drewNB hbF nq
                replace hLT := Lib.hid (show Rd (wy.drewN nq) _ _ from hLT.out)
                replace hHT := Lib.hid (show Rd (wy.drewN nq) _ _ from hHT.out)
                replace HLF := Lib.hid (show Rd (wy.drewN nq) _ _ from HLF.out)
                replace HHF := Lib.hid (show Rd (wy.drewN nq) _ _ from HHF.out)
                replace kA : (wy.drewN nq).cell? _ = _ := kA
                replace kB : (wy.drewN nq).cell? _ = _ := kB
                replace jA : (wy.drewN nq).cell? _ = _ := jA
                replace jB : (wy.drewN nq).cell? _ = _ := jB
                generalize wy.drewN nq = wx at *
                by_cases hdd : ch = 1
                · have hnh1 : nh = 1 := by have := HLN.out.2; omega
                  subst hnh1
                  subst hdd
                  go_wp2_with fail
                  go_roundg (gk - m)
                  case measure => have := HUU.out.1; omega
                  case rel =>
                    go_light
                    have e1 : nl - 1 = ra.length := by have := HLN.out.1; omega
                    have e2 : rb.length = 0 := by have := HLN.out.2; omega
                    have f1 : ra.length ≤ (cl - 1) := (by rw [← e1]; omega)
                    have f2 : rb.length ≤ 0 := (by rw [e2]; exact Nat.zero_le _)
                    have f3 : Rd wx (some ⟨xl, ol + 1, none⟩) (ints (nats ra)) := hLT.out
                    have f4 : Rd wx (some ⟨xh, oh, none⟩) (ints (nats rb)) := rd_emptyN e2
                    have f5 : ∀ ad : Addr, 0 < ra.length → (some ⟨xl, ol + 1, none⟩) = some ad → g + 2 ≤ ad.block := (fun ad _ e => by cases e; exact HLG.out.1)
                    have f6 : ∀ ad : Addr, 0 < rb.length → (some ⟨xh, oh, none⟩) = some ad → g + 2 ≤ ad.block := (fun ad h _ => by rw [e2] at h; exact absurd h (Nat.lt_irrefl 0))
                    have f7 := HLA'.out hA1
                    have f8 := HLB'.out hB1
                    exact ⟨s', t', ra, rb, (some ⟨xl, ol + 1, none⟩), (some ⟨xh, oh, none⟩), (cl - 1), 0, by rw [e1], f1, by rw [e2], f2, ⟨HUU.out.2.1, HUU.out.2.2, f7, f8⟩, oA, oB, f3, f4, f5, f6, hbF⟩
                · have hdd0 := hdd
                  go_wp2_with fail
                  go_roundg (gk - m)
                  case measure => have := HUU.out.1; omega
                  case rel =>
                    go_light
                    have e1 : nl - 1 = ra.length := by have := HLN.out.1; omega
                    have e2 : nh - 1 = rb.length := by have := HLN.out.2; omega
                    have f1 : ra.length ≤ (cl - 1) := (by rw [← e1]; omega)
                    have f2 : rb.length ≤ (ch - 1) := (by rw [← e2]; omega)
                    have f3 : Rd wx (some ⟨xl, ol + 1, none⟩) (ints (nats ra)) := hLT.out
                    have f4 : Rd wx (some ⟨xh, oh + 1, none⟩) (ints (nats rb)) := hHT.out
                    have f5 : ∀ ad : Addr, 0 < ra.length → (some ⟨xl, ol + 1, none⟩) = some ad → g + 2 ≤ ad.block := (fun ad _ e => by cases e; exact HLG.out.1)
                    have f6 : ∀ ad : Addr, 0 < rb.length → (some ⟨xh, oh + 1, none⟩) = some ad → g + 2 ≤ ad.block := (fun ad _ e => by cases e; exact HLG.out.2)
                    have f7 := HLA'.out hA1
                    have f8 := HLB'.out hB1
                    exact ⟨s', t', ra, rb, (some ⟨xl, ol + 1, none⟩), (some ⟨xh, oh + 1, none⟩), (cl - 1), (ch - 1), by rw [e1], f1, by rw [e2], f2, ⟨HUU.out.2.1, HUU.out.2.2, f7, f8⟩, oA, oB, f3, f4, f5, f6, hbF⟩
              · have qB : (T + m == MB) = false := by simpa using hB1
                go_quiet (fail)
                replace oA : Own (wy.drewN nq) _ _ _ _ _ _ := oA
                replace oB : Own (wy.drewN nq) _ _ _ _ _ _ := oB
                replace hbF := drewNB hbF nq
                replace hLT := Lib.hid (show Rd (wy.drewN nq) _ _ from hLT.out)
                replace hHT := Lib.hid (show Rd (wy.drewN nq) _ _ from hHT.out)
                replace HLF := Lib.hid (show Rd (wy.drewN nq) _ _ from HLF.out)
                replace HHF := Lib.hid (show Rd (wy.drewN nq) _ _ from HHF.out)
                replace kA : (wy.drewN nq).cell? _ = _ := kA
                replace kB : (wy.drewN nq).cell? _ = _ := kB
                replace jA : (wy.drewN nq).cell? _ = _ := jA
                replace jB : (wy.drewN nq).cell? _ = _ := jB
                generalize wy.drewN nq = wx at *
                go_wp2_with fail
                go_roundg (gk - m)
                case measure => have := HUU.out.1; omega
                case rel =>
                  go_light
                  have e1 : nl - 1 = ra.length := by have := HLN.out.1; omega
                  have e2 : (b :: rb).length = nh := HNL.out.2
                  have f1 : ra.length ≤ (cl - 1) := (by rw [← e1]; omega)
                  have f2 : (b :: rb).length ≤ ch := (by rw [e2]; exact hch)
                  have f3 : Rd wx (some ⟨xl, ol + 1, none⟩) (ints (nats ra)) := hLT.out
                  have f4 : Rd wx (some ⟨xh, oh, none⟩) (ints (nats (b :: rb))) := HHF.out
                  have f5 : ∀ ad : Addr, 0 < ra.length → (some ⟨xl, ol + 1, none⟩) = some ad → g + 2 ≤ ad.block := (fun ad _ e => by cases e; exact HLG.out.1)
                  have f6 : ∀ ad : Addr, 0 < (b :: rb).length → (some ⟨xh, oh, none⟩) = some ad → g + 2 ≤ ad.block := (fun ad _ e => by cases e; exact HLG.out.2)
                  have f7 := HLA'.out hA1
                  have f8 := HLB.out (by omega)
                  exact ⟨s', t', ra, (b :: rb), (some ⟨xl, ol + 1, none⟩), (some ⟨xh, oh, none⟩), (cl - 1), ch, by rw [e1], f1, by rw [e2], f2, ⟨HUU.out.2.1, HUU.out.2.2, f7, f8⟩, oA, oB, f3, f4, f5, f6, hbF⟩
          · have qA : (S + m == MA) = false := by simpa using hA1
            go_quiet (fail)
            replace oA : Own (wz.drewN nq) _ _ _ _ _ _ := oA
            replace oB : Own (wz.drewN nq) _ _ _ _ _ _ := oB
            replace hbF := drewNB hbF nq
            replace hLT := Lib.hid (show Rd (wz.drewN nq) _ _ from hLT.out)
            replace hHT := Lib.hid (show Rd (wz.drewN nq) _ _ from hHT.out)
            replace HLF := Lib.hid (show Rd (wz.drewN nq) _ _ from HLF.out)
            replace HHF := Lib.hid (show Rd (wz.drewN nq) _ _ from HHF.out)
            replace kA : (wz.drewN nq).cell? _ = _ := kA
            replace kB : (wz.drewN nq).cell? _ = _ := kB
            replace jA : (wz.drewN nq).cell? _ = _ := jA
            replace jB : (wz.drewN nq).cell? _ = _ := jB
            generalize wz.drewN nq = wy at *
            go_wp2_with fail
            by_cases hB1 : T + m = MB
            · have qB : (T + m == MB) = true := by simpa using hB1
              go_quiet (fail)
              replace oA : Own (wy.drewN nq) _ _ _ _ _ _ := oA
              replace oB : Own (wy.drewN nq) _ _ _ _ _ _ := oB
              replace hbF := drewNB hbF nq
              replace hLT := Lib.hid (show Rd (wy.drewN nq) _ _ from hLT.out)
              replace hHT := Lib.hid (show Rd (wy.drewN nq) _ _ from hHT.out)
              replace HLF := Lib.hid (show Rd (wy.drewN nq) _ _ from HLF.out)
              replace HHF := Lib.hid (show Rd (wy.drewN nq) _ _ from HHF.out)
              replace kA : (wy.drewN nq).cell? _ = _ := kA
              replace kB : (wy.drewN nq).cell? _ = _ := kB
              replace jA : (wy.drewN nq).cell? _ = _ := jA
              replace jB : (wy.drewN nq).cell? _ = _ := jB
              generalize wy.drewN nq = wx at *
              by_cases hdd : ch = 1
              · have hnh1 : nh = 1 := by have := HLN.out.2; omega
                subst hnh1
                subst hdd
                go_wp2_with fail
                go_roundg (gk - m)
                case measure => have := HUU.out.1; omega
                case rel =>
                  go_light
                  have e1 : (a :: ra).length = nl := HNL.out.1
                  have e2 : rb.length = 0 := by have := HLN.out.2; omega
                  have f1 : (a :: ra).length ≤ cl := (by rw [e1]; exact hcl)
                  have f2 : rb.length ≤ 0 := (by rw [e2]; exact Nat.zero_le _)
                  have f3 : Rd wx (some ⟨xl, ol, none⟩) (ints (nats (a :: ra))) := HLF.out
                  have f4 : Rd wx (some ⟨xh, oh, none⟩) (ints (nats rb)) := rd_emptyN e2
                  have f5 : ∀ ad : Addr, 0 < (a :: ra).length → (some ⟨xl, ol, none⟩) = some ad → g + 2 ≤ ad.block := (fun ad _ e => by cases e; exact HLG.out.1)
                  have f6 : ∀ ad : Addr, 0 < rb.length → (some ⟨xh, oh, none⟩) = some ad → g + 2 ≤ ad.block := (fun ad h _ => by rw [e2] at h; exact absurd h (Nat.lt_irrefl 0))
                  have f7 := HLA.out (by omega)
                  have f8 := HLB'.out hB1
                  exact ⟨s', t', (a :: ra), rb, (some ⟨xl, ol, none⟩), (some ⟨xh, oh, none⟩), cl, 0, by rw [e1], f1, by rw [e2], f2, ⟨HUU.out.2.1, HUU.out.2.2, f7, f8⟩, oA, oB, f3, f4, f5, f6, hbF⟩
              · have hdd0 := hdd
                go_wp2_with fail
                go_roundg (gk - m)
                case measure => have := HUU.out.1; omega
                case rel =>
                  go_light
                  have e1 : (a :: ra).length = nl := HNL.out.1
                  have e2 : nh - 1 = rb.length := by have := HLN.out.2; omega
                  have f1 : (a :: ra).length ≤ cl := (by rw [e1]; exact hcl)
                  have f2 : rb.length ≤ (ch - 1) := (by rw [← e2]; omega)
                  have f3 : Rd wx (some ⟨xl, ol, none⟩) (ints (nats (a :: ra))) := HLF.out
                  have f4 : Rd wx (some ⟨xh, oh + 1, none⟩) (ints (nats rb)) := hHT.out
                  have f5 : ∀ ad : Addr, 0 < (a :: ra).length → (some ⟨xl, ol, none⟩) = some ad → g + 2 ≤ ad.block := (fun ad _ e => by cases e; exact HLG.out.1)
                  have f6 : ∀ ad : Addr, 0 < rb.length → (some ⟨xh, oh + 1, none⟩) = some ad → g + 2 ≤ ad.block := (fun ad _ e => by cases e; exact HLG.out.2)
                  have f7 := HLA.out (by omega)
                  have f8 := HLB'.out hB1
                  exact ⟨s', t', (a :: ra), rb, (some ⟨xl, ol, none⟩), (some ⟨xh, oh + 1, none⟩), cl, (ch - 1), by rw [e1], f1, by rw [e2], f2, ⟨HUU.out.2.1, HUU.out.2.2, f7, f8⟩, oA, oB, f3, f4, f5, f6, hbF⟩
            · exfalso; omega
  · have ho2 : Own ((w2.alloc (.cells M2 3)).alloc (.cells M1 3)).drew w.heap.size 3 1 (some ⟨w2.heap.size, 0, none⟩) n2 (ints (zeros n2)) := by
      have h := (World.ownsRow_lit (base := w.heap.size) (e := 3) (size := 1) w2 M2 n2 hb1.size (by unfold maxLen; omega) (made_size Z2.out)).alloc (.cells M1 3)
      rw [Z2.out] at h
      obtain ⟨_, _, e, ho⟩ := own_of_row h
      cases e; exact ho
    have ho1 : Own ((w2.alloc (.cells M2 3)).alloc (.cells M1 3)).drew w.heap.size 3 1 (some ⟨w2.heap.size + 1, 0, none⟩) n1 (ints (zeros n1)) := by
      have h := World.ownsRow_lit (base := w.heap.size) (e := 3) (size := 1) (w2.alloc (.cells M2 3)) M1 n1 (by have := hb1.size; simp; omega) (by unfold maxLen; omega) (made_size Z1.out)
      rw [Z1.out, show (w2.alloc (.cells M2 3)).heap.size = w2.heap.size + 1 by simp] at h
      obtain ⟨_, _, e, ho⟩ := own_of_row h
      cases e; exact ho
    have hbW : Below w.heap.size w ((w2.alloc (.cells M2 3)).alloc (.cells M1 3)).drew := drew1B (allocB (allocB hb1 _) _)
    have hwg := hb1.size
    have hwW : w2.heap.size + 2 ≤ ((w2.alloc (.cells M2 3)).alloc (.cells M1 3)).drew.heap.size := by simp
    generalize ((w2.alloc (.cells M2 3)).alloc (.cells M1 3)).drew = W at *
    clear hb1 hmk1 hmk2 Z1 Z2
    generalize w2.heap.size = g at *
    refine (implBP 1 false (.inl ⟨rfl, rfl⟩) A n1 c1 asks _ HN1.out hm1 (HA.out.below hbW)).mono ?_
    rintro e w3 ⟨ysL, gL, rfl, hL1, hL2, hL3, hLo, hbn⟩
    have HL := Lib.hid (And.intro hL1 (And.intro hL2 hL3)); clear hL1 hL2 hL3
    have hLg : 0 < n1 → g + 2 ≤ gL := fun h => by have := hLo.ge (Nat.le_refl _) _ h rfl; simp at this; omega
    replace ho1 := ho1.below hbn
    replace ho2 := ho2.below hbn
    replace hbW := seqB hbW hbn
    have hwW' := hbn.size
    clear hbn
    go_wp2_with fail
    refine (implBP (-1) true (.inr ⟨rfl, rfl⟩) B n2 c2 bids _ HN2.out hm2 (HB.out.below hbW)).mono ?_
    rintro e w4 ⟨ysH, gH, rfl, hH1, hH2, hH3, hHo, hbn⟩
    have HH := Lib.hid (And.intro hH1 (And.intro hH2 hH3)); clear hH1 hH2 hH3
    have hHg : 0 < n2 → g + 2 ≤ gH := fun h => by have := hHo.ge (Nat.le_refl _) _ h rfl; simp at this; omega
    replace ho1 := ho1.below hbn
    replace ho2 := ho2.below hbn
    replace hLo := hLo.below hbn
    replace hbW := seqB hbW hbn
    clear hbn hwW hwW'
    have H0 : Hid (TInv asks bids (zeros n1) (zeros n2) ∧ tradeU asks bids (units asks).toNat (zeros n1) (zeros n2) = trade asks bids ∧ LowInv asks (zeros n1) false ysL ∧ LowInv bids (zeros n2) true ysH) := by
      have h1 := low_zero HVA.out HL.out.2.1 (fun k => by rw [HL.out.2.2 k, HN1.out])
      have h2 := low_zero HVB.out HH.out.2.1 (fun k => by rw [HH.out.2.2 k, HN2.out])
      rw [HN1.out] at h1
      rw [HN2.out] at h2
      refine ⟨?_, ?_, h1, h2⟩
      · rw [← HN1.out, ← HN2.out]; exact tinv_zeros HVA.out HVB.out
      · rw [← HN1.out, ← HN2.out]; rfl
    have hLR := hLo.rd
    have hHR := hHo.rd
    clear hLo hHo
    go_wp2_with fail
    go_loopg [8, 9] (units asks).toNat (fun f vl vh wr => ∃ (s t : List Int) (lo hi : List Nat) (AL AH : Option Addr) (cl ch : Nat), vl = .slice AL lo.length cl ∧ lo.length ≤ cl ∧ vh = .slice AH hi.length ch ∧ hi.length ≤ ch ∧ Hid (TInv asks bids s t ∧ tradeU asks bids f s t = trade asks bids ∧ LowInv asks s false lo ∧ LowInv bids t true hi) ∧ Own wr w.heap.size 3 1 (some ⟨g + 1, 0, none⟩) n1 (ints s) ∧ Own wr w.heap.size 3 1 (some ⟨g, 0, none⟩) n2 (ints t) ∧ Rd wr AL (ints (nats lo)) ∧ Rd wr AH (ints (nats hi)) ∧ (∀ a, 0 < lo.length → AL = some a → g + 2 ≤ a.block) ∧ (∀ a, 0 < hi.length → AH = some a → g + 2 ≤ a.block) ∧ Below w.heap.size w wr)
    case atStart => exact ⟨_, _, ysL, ysH, some ⟨gL, 0, none⟩, some ⟨gH, 0, none⟩, n1, n2, by rw [HL.out.1], by rw [HL.out.1]; exact Nat.le_refl _, by rw [HH.out.1], by rw [HH.out.1]; exact Nat.le_refl _, H0, ho1, ho2, hLR, hHR, fun a h e => by cases e; exact hLg (by rw [HL.out.1] at h; exact h), fun a h e => by cases e; exact hHg (by rw [HH.out.1] at h; exact h), hbW⟩
    case round =>
      clear ho1 ho2 hLR hHR hLg hHg H0 HL HH hbW
      obtain ⟨s, t, lo, hi, AL, AH, cl, ch, rfl, hcl, rfl, hch, HT, ho1, ho2, hLR0, hHR0, hLg0, hHg0, hbW⟩ := hrel
      have hLR := Lib.hid hLR0; have hHR := Lib.hid hHR0; have hLg := Lib.hid hLg0; have hHg := Lib.hid hHg0
      clear hLR0 hHR0 hLg0 hHg0
      have STOP : Hid ((lo = [] ∨ hi = [] ∨ ∃ a ra b rb, lo = a :: ra ∧ hi = b :: rb ∧ (oAt bids b).fPrice < (oAt asks a).fPrice) → ∀ q : Nat, RetTT (trade asks bids).1 (trade asks bids).2 w (.returned (.tuple #[.slice (some ⟨g + 1, 0, none⟩) n1 n1, .slice (some ⟨g, 0, none⟩) n2 n2])) (wr.drewN q)) := by
        intro h q
        have e := HT.out.2.1
        rw [low_stop HT.out.2.2.1 HT.out.2.2.2 h] at e
        rw [← e]
        have l1 := own_len ho1
        have l2 := own_len ho2
        refine ⟨some ⟨g + 1, 0, none⟩, n1, some ⟨g, 0, none⟩, n2, ?_, ?_, ?_, ?_, drewNB hbW q⟩
        · rw [l1, l2]
        · rw [l1]; exact ho1
        · rw [l2]; exact ho2
        · intro a a' _ _ ea ed; cases ea; cases ed; simp
      cases lo with
      | nil =>
        have HS := Lib.hid (STOP.out (.inl rfl) 0)
        clear STOP
        go_wp2_with fail
        go_ret2
        exact HS.out
      | cons a ra =>
        cases hi with
        | nil =>
          have HS := Lib.hid (STOP.out (.inr (.inl rfl)) 0)
          clear STOP
          have hx : (0 : Int) < ((a :: ra).length : Int) := by rw [List.length_cons]; omega
          generalize (a :: ra).length = nl at *
          go_wp2_with fail
          go_ret2
          exact HS.out
        | cons b rb =>
          have ha := (HT.out.2.2.1.1 a).1 (by simp)
          have hb := (HT.out.2.2.2.1 b).1 (by simp)
          obtain ⟨xl, ol, rfl, _, hl0⟩ := hLR.out.int (k := 0) (by simp [nats])
          obtain ⟨xh, oh, rfl, _, hh0⟩ := hHR.out.int (k := 0) (by simp [nats])
          simp [nats] at hl0 hh0
          have hx1 : (0 : Int) < ((a :: ra).length : Int) := by rw [List.length_cons]; omega
          have hx2 : (0 : Int) < ((b :: rb).length : Int) := by rw [List.length_cons]; omega
          have han : (a : Int) < (n1 : Int) := by have := HN1.out; omega
          have hbn : (b : Int) < (n2 : Int) := by have := HN2.out; omega
          have ha0 : (0 : Int) ≤ (a : Int) := by omega
          have hb0 : (0 : Int) ≤ (b : Int) := by omega
          obtain ⟨x1, o1, rfl, _, hp1, hm1'⟩ := (HA.out.below hbW).atOrder (k := a) (by have := HN1.out; omega)
          obtain ⟨x2, o2, rfl, _, hp2, hm2'⟩ := (HB.out.below hbW).atOrder (k := b) (by have := HN2.out; omega)
          have ha2 : a < n1 := by omega
          have hb2 : b < n2 := by omega
          generalize hP1 : (asks.getD a Order.zero).fPrice = P1 at *
          generalize hP2 : (bids.getD b Order.zero).fPrice = P2 at *
          generalize hM1 : (asks.getD a Order.zero).fMany = MA at *
          generalize hM2 : (bids.getD b Order.zero).fMany = MB at *
          have HP : Hid ((oAt asks a).fPrice = P1 ∧ (oAt bids b).fPrice = P2) := ⟨hP1, hP2⟩
          have HM : Hid ((oAt asks a).fMany = MA ∧ (oAt bids b).fMany = MB) := ⟨hM1, hM2⟩
          clear hP1 hP2 hM1 hM2
          have HAB := Lib.hid (And.intro ha hb); clear ha hb
          have HLEN := Lib.hid (And.intro (show (a :: ra).length = ra.length + 1 from rfl) (show (b :: rb).length = rb.length + 1 from rfl))
          by_cases hle : P1 ≤ P2
          case neg =>
            have hd : P2 < P1 := by omega
            have HS := Lib.hid (STOP.out (.inr (.inr ⟨a, ra, b, rb, rfl, rfl, by rw [HP.out.1, HP.out.2]; exact hd⟩)))
            clear STOP
            generalize (a :: ra).length = nl at *
            generalize (b :: rb).length = nh at *
            go_wp2_with fail
            go_quiet (fail)
            go_wp2_with fail
            go_quiet (fail)
            go_wp2_with fail
            go_ret2
            first | exact HS.out _ | (rw [World.drewN_drewN]; exact HS.out _)
          have hd : decide (P2 < P1) = false := decide_eq_false (by omega)
          clear STOP
          obtain ⟨hd1, hd2⟩ := own_int ho1 ha2
          obtain ⟨he1, he2⟩ := own_int ho2 hb2
          have hS : 0 ≤ dAt s a ∧ dAt s a < MA ∧ MA ≤ 999 := by
            have h1 := HT.out.1.ds.2 a HAB.out.1.1
            have h2 := side_at HVA.out HAB.out.1.1
            have h3 := left_iff.1 HAB.out.1.2
            rw [HM.out.1] at h1 h2 h3
            omega
          have hTT : 0 ≤ dAt t b ∧ dAt t b < MB ∧ MB ≤ 999 := by
            have h1 := HT.out.1.dt.2 b HAB.out.2.1
            have h2 := side_at HVB.out HAB.out.2.1
            have h3 := left_iff.1 HAB.out.2.2
            rw [HM.out.2] at h1 h2 h3
            omega
          generalize hSS : dAt s a = S at *
          generalize hST : dAt t b = T at *
          have HSS := Lib.hid (And.intro hSS hST); clear hSS hST
          have hnl := Lib.hid (Eq.refl (a :: ra).length)
          generalize hnlx : (a :: ra).length = nl at *
          generalize hnhx : (b :: rb).length = nh at *
          have HNL := Lib.hid (And.intro hnlx hnhx); clear hnlx hnhx hnl
          have wr1 : IntKind.i64.wrap (MA - S) = MA - S := IntWalk.i64_in _ (by omega)
          have wr2 : IntKind.i64.wrap (MB - T) = MB - T := IntWalk.i64_in _ (by omega)
          go_wp2_with fail
          go_quiet (fail)
          replace ho1 : Own (wr.drewN nq) _ _ _ _ _ _ := ho1
          replace ho2 : Own (wr.drewN nq) _ _ _ _ _ _ := ho2
          replace hbW := drewNB hbW nq
          replace hLR := Lib.hid (show Rd (wr.drewN nq) _ _ from hLR.out)
          replace hHR := Lib.hid (show Rd (wr.drewN nq) _ _ from hHR.out)
          replace hl0 : (wr.drewN nq).cell? _ = _ := hl0
          replace hh0 : (wr.drewN nq).cell? _ = _ := hh0
          replace hp1 : (wr.drewN nq).cell? _ = _ := hp1
          replace hm1' : (wr.drewN nq).cell? _ = _ := hm1'
          replace hp2 : (wr.drewN nq).cell? _ = _ := hp2
          replace hm2' : (wr.drewN nq).cell? _ = _ := hm2'
          replace hd1 : (wr.drewN nq).cell? _ = _ := hd1
          replace he1 : (wr.drewN nq).cell? _ = _ := he1
          replace hd2 : (wr.drewN nq).frozen? _ = _ := hd2
          replace he2 : (wr.drewN nq).frozen? _ = _ := he2
          generalize wr.drewN nq = wa at *
          go_wp2_with fail
          go_quiet (fail)
          replace ho1 : Own (wa.drewN nq) _ _ _ _ _ _ := ho1
          replace ho2 : Own (wa.drewN nq) _ _ _ _ _ _ := ho2
          replace hbW := drewNB hbW nq
          replace hLR := Lib.hid (show Rd (wa.drewN nq) _ _ from hLR.out)
          replace hHR := Lib.hid (show Rd (wa.drewN nq) _ _ from hHR.out)
          replace hl0 : (wa.drewN nq).cell? _ = _ := hl0
          replace hh0 : (wa.drewN nq).cell? _ = _ := hh0
          replace hp1 : (wa.drewN nq).cell? _ = _ := hp1
          replace hm1' : (wa.drewN nq).cell? _ = _ := hm1'
          replace hp2 : (wa.drewN nq).cell? _ = _ := hp2
          replace hm2' : (wa.drewN nq).cell? _ = _ := hm2'
          replace hd1 : (wa.drewN nq).cell? _ = _ := hd1
          replace he1 : (wa.drewN nq).cell? _ = _ := he1
          replace hd2 : (wa.drewN nq).frozen? _ = _ := hd2
          replace he2 : (wa.drewN nq).frozen? _ = _ := he2
          generalize wa.drewN nq = wb at *
          go_wp2_with fail
          go_quiet (fail)
          replace ho1 : Own (wb.drewN nq) _ _ _ _ _ _ := ho1
          replace ho2 : Own (wb.drewN nq) _ _ _ _ _ _ := ho2
          replace hbW := drewNB hbW nq
          replace hLR := Lib.hid (show Rd (wb.drewN nq) _ _ from hLR.out)
          replace hHR := Lib.hid (show Rd (wb.drewN nq) _ _ from hHR.out)
          replace hl0 : (wb.drewN nq).cell? _ = _ := hl0
          replace hh0 : (wb.drewN nq).cell? _ = _ := hh0
          replace hp1 : (wb.drewN nq).cell? _ = _ := hp1
          replace hm1' : (wb.drewN nq).cell? _ = _ := hm1'
          replace hp2 : (wb.drewN nq).cell? _ = _ := hp2
          replace hm2' : (wb.drewN nq).cell? _ = _ := hm2'
          replace hd1 : (wb.drewN nq).cell? _ = _ := hd1
          replace he1 : (wb.drewN nq).cell? _ = _ := he1
          replace hd2 : (wb.drewN nq).frozen? _ = _ := hd2
          replace he2 : (wb.drewN nq).frozen? _ = _ := he2
          generalize wb.drewN nq = wc at *
          obtain ⟨m, hmm, hm0, hmA, hmB, hmE⟩ : ∃ m : Nat, min (MA - S) (MB - T) = (m : Int) ∧ 1 ≤ m ∧ (m : Int) ≤ MA - S ∧ (m : Int) ≤ MB - T ∧ ((m : Int) = MA - S ∨ (m : Int) = MB - T) := ⟨(min (MA - S) (MB - T)).toNat, by omega, by omega, by omega, by omega, by omega⟩
          rw [hmm]
          clear hmm
          have HU := Lib.hid (round_units HVA.out HVB.out (m := m) HT.out.1 HT.out.2.1 HT.out.2.2.1.head HT.out.2.2.2.head (by rw [HP.out.1, HP.out.2]; exact hle) (by rw [HSS.out.1, HM.out.1]; omega) (by rw [HSS.out.2, HM.out.2]; omega))
          rw [Hid, HSS.out.1, HSS.out.2] at HU
          have HUU := Lib.hid HU; clear HU
          have oA : Own ((wc.setCell ⟨g + 1, a, none⟩ (.int .i64 (S + m))).setCell ⟨g, b, none⟩ (.int .i64 (T + m))) w.heap.size 3 1 (some ⟨g + 1, 0, none⟩) n1 (ints (s.set a (S + m))) := by
            rw [← ints_set]
            exact own_other (ho1.set a _) (by omega)
          have oB : Own ((wc.setCell ⟨g + 1, a, none⟩ (.int .i64 (S + m))).setCell ⟨g, b, none⟩ (.int .i64 (T + m))) w.heap.size 3 1 (some ⟨g, 0, none⟩) n2 (ints (t.set b (T + m))) := by
            rw [← ints_set]
            exact (own_other ho2 (by omega)).set b _
          have hbF : Below w.heap.size w ((wc.setCell ⟨g + 1, a, none⟩ (.int .i64 (S + m))).setCell ⟨g, b, none⟩ (.int .i64 (T + m))) := ((hbW.setCell (p := ⟨g + 1, a, none⟩) (by simp; omega) _).setCell (p := ⟨g, b, none⟩) (by simp; omega) _)
          have hLF : Rd ((wc.setCell ⟨g + 1, a, none⟩ (.int .i64 (S + m))).setCell ⟨g, b, none⟩ (.int .i64 (T + m))) (some ⟨xl, ol, none⟩) (ints (nats (a :: ra))) := rd_far2 hLR.out (by have := hLg.out _ (by rw [← HNL.out.1]; simp) rfl; simp at this; omega) (by have := hLg.out _ (by rw [← HNL.out.1]; simp) rfl; simp at this; omega)
          have hHF : Rd ((wc.setCell ⟨g + 1, a, none⟩ (.int .i64 (S + m))).setCell ⟨g, b, none⟩ (.int .i64 (T + m))) (some ⟨xh, oh, none⟩) (ints (nats (b :: rb))) := rd_far2 hHR.out (by have := hHg.out _ (by rw [← HNL.out.2]; simp) rfl; simp at this; omega) (by have := hHg.out _ (by rw [← HNL.out.2]; simp) rfl; simp at this; omega)
          go_wp2_with fail
          clear hl0 hh0 hp1 hm1' hp2 hm2' hd1 hd2 he1 he2 ho1 ho2 hLR hHR hbW
          generalize ((wc.setCell ⟨g + 1, a, none⟩ (.int .i64 (S + m))).setCell ⟨g, b, none⟩ (.int .i64 (T + m))) = wz at *
          obtain ⟨kA, _⟩ := own_int oA ha2
          obtain ⟨kB, _⟩ := own_int oB hb2
          rw [dAt_set _ _ _ _ (by rw [HT.out.1.ds.1]; exact HAB.out.1.1), if_pos rfl] at kA
          rw [dAt_set _ _ _ _ (by rw [HT.out.1.dt.1]; exact HAB.out.2.1), if_pos rfl] at kB
          obtain ⟨_, _, e1, _, _, jA⟩ := (HA.out.below hbF).atOrder (k := a) (by rw [HN1.out]; exact ha2)
          cases e1
          obtain ⟨_, _, e1, _, _, jB⟩ := (HB.out.below hbF).atOrder (k := b) (by rw [HN2.out]; exact hb2)
          cases e1
          rw [show (asks.getD a Order.zero).fMany = MA from HM.out.1] at jA
          rw [show (bids.getD b Order.zero).fMany = MB from HM.out.2] at jB
          have HLA : Hid (S + m < MA → LowInv asks (s.set a (S + m)) false (a :: ra)) := fun h => low_stay HT.out.2.2.1 HT.out.1.ds.1 (by rw [HM.out.1]; exact h)
          have HLA' : Hid (S + m = MA → LowInv asks (s.set a (S + m)) false ra) := fun h => low_next HT.out.2.2.1 HT.out.1.ds.1 (by rw [HM.out.1]; exact h)
          have HLB : Hid (T + m < MB → LowInv bids (t.set b (T + m)) true (b :: rb)) := fun h => low_stay HT.out.2.2.2 HT.out.1.dt.1 (by rw [HM.out.2]; exact h)
          have HLB' : Hid (T + m = MB → LowInv bids (t.set b (T + m)) true rb) := fun h => low_next HT.out.2.2.2 HT.out.1.dt.1 (by rw [HM.out.2]; exact h)
          have HLN := Lib.hid (show nl = ra.length + 1 ∧ nh = rb.length + 1 from ⟨by rw [← HNL.out.1]; rfl, by rw [← HNL.out.2]; rfl⟩)
          have hnl0 : 1 ≤ (nl : Int) := by have := HLN.out.1; omega
          have hnh0 : 1 ≤ (nh : Int) := by have := HLN.out.2; omega
          have HLG : Hid (g + 2 ≤ xl ∧ g + 2 ≤ xh) := ⟨by have := hLg.out _ (by rw [← HNL.out.1]; simp) rfl; simpa using this, by have := hHg.out _ (by rw [← HNL.out.2]; simp) rfl; simpa using this⟩
          clear HT hLg hHg HAB
          generalize s.set a (S + m) = s' at *
          generalize t.set b (T + m) = t' at *
          have hLT := Lib.hid (rd_tailN hLF)
          have hHT := Lib.hid (rd_tailN hHF)
          have HLF := Lib.hid hLF; have HHF := Lib.hid hHF; clear hLF hHF
          by_cases hA1 : S + m = MA
          · have qA : (S + m == MA) = true := by simpa using hA1
            go_quiet (fail)
            replace oA : Own (wz.drewN nq) _ _ _ _ _ _ := oA
            replace oB : Own (wz.drewN nq) _ _ _ _ _ _ := oB
            replace hbF := drewNB hbF nq
            replace hLT := Lib.hid (show Rd (wz.drewN nq) _ _ from hLT.out)
            replace hHT := Lib.hid (show Rd (wz.drewN nq) _ _ from hHT.out)
            replace HLF := Lib.hid (show Rd (wz.drewN nq) _ _ from HLF.out)
            replace HHF := Lib.hid (show Rd (wz.drewN nq) _ _ from HHF.out)
            replace kA : (wz.drewN nq).cell? _ = _ := kA
            replace kB : (wz.drewN nq).cell? _ = _ := kB
            replace jA : (wz.drewN nq).cell? _ = _ := jA
            replace jB : (wz.drewN nq).cell? _ = _ := jB
            generalize wz.drewN nq = wy at *
            by_cases hcc : cl = 1
            · have hcc0 := hcc
              have hnl1 : nl = 1 := by have := HLN.out.1; omega
              subst hnl1
              subst hcc
              go_wp2_with fail
              by_cases hB1 : T + m = MB
              · have qB : (T + m == MB) = true := by simpa using hB1
                go_quiet (fail)
                replace oA : Own (wy.drewN nq) _ _ _ _ _ _ := oA
                replace oB : Own (wy.drewN nq) _ _ _ _ _ _ := oB
                replace hbF := drewNB hbF nq
                replace hLT := Lib.hid (show Rd (wy.drewN nq) _ _ from hLT.out)
                replace hHT := Lib.hid (show Rd (wy.drewN nq) _ _ from hHT.out)
                replace HLF := Lib.hid (show Rd (wy.drewN nq) _ _ from HLF.out)
                replace HHF := Lib.hid (show Rd (wy.drewN nq) _ _ from HHF.out)
                replace kA : (wy.drewN nq).cell? _ = _ := kA
                replace kB : (wy.drewN nq).cell? _ = _ := kB
                replace jA : (wy.drewN nq).cell? _ = _ := jA
                replace jB : (wy.drewN nq).cell? _ = _ := jB
                generalize wy.drewN nq = wx at *
                by_cases hdd : ch = 1
                · have hnh1 : nh = 1 := by have := HLN.out.2; omega
                  subst hnh1
                  subst hdd
                  go_wp2_with fail
                  go_roundg (gk - m)
                  case measure => have := HUU.out.1; omega
                  case rel =>
                    go_light
                    have e1 : ra.length = 0 := by have := HLN.out.1; omega
                    have e2 : rb.length = 0 := by have := HLN.out.2; omega
                    have f1 : ra.length ≤ 0 := (by rw [e1]; exact Nat.zero_le _)
                    have f2 : rb.length ≤ 0 := (by rw [e2]; exact Nat.zero_le _)
                    have f3 : Rd wx (some ⟨xl, ol, none⟩) (ints (nats ra)) := rd_emptyN e1
                    have f4 : Rd wx (some ⟨xh, oh, none⟩) (ints (nats rb)) := rd_emptyN e2
                    have f5 : ∀ ad : Addr, 0 < ra.length → (some ⟨xl, ol, none⟩) = some ad → g + 2 ≤ ad.block := (fun ad h _ => by rw [e1] at h; exact absurd h (Nat.lt_irrefl 0))
                    have f6 : ∀ ad : Addr, 0 < rb.length → (some ⟨xh, oh, none⟩) = some ad → g + 2 ≤ ad.block := (fun ad h _ => by rw [e2] at h; exact absurd h (Nat.lt_irrefl 0))
                    have f7 := HLA'.out hA1
                    have f8 := HLB'.out hB1
                    exact ⟨s', t', ra, rb, (some ⟨xl, ol, none⟩), (some ⟨xh, oh, none⟩), 0, 0, by rw [e1], f1, by rw [e2], f2, ⟨HUU.out.2.1, HUU.out.2.2, f7, f8⟩, oA, oB, f3, f4, f5, f6, hbF⟩
                · have hdd0 := hdd
                  go_wp2_with fail
                  go_roundg (gk - m)
                  case measure => have := HUU.out.1; omega
                  case rel =>
                    go_light
                    have e1 : ra.length = 0 := by have := HLN.out.1; omega
                    have e2 : nh - 1 = rb.length := by have := HLN.out.2; omega
                    have f1 : ra.length ≤ 0 := (by rw [e1]; exact Nat.zero_le _)
                    have f2 : rb.length ≤ (ch - 1) := (by rw [← e2]; omega)
                    have f3 : Rd wx (some ⟨xl, ol, none⟩) (ints (nats ra)) := rd_emptyN e1
                    have f4 : Rd wx (some ⟨xh, oh + 1, none⟩) (ints (nats rb)) := hHT.out
                    have f5 : ∀ ad : Addr, 0 < ra.length → (some ⟨xl, ol, none⟩) = some ad → g + 2 ≤ ad.block := (fun ad h _ => by rw [e1] at h; exact absurd h (Nat.lt_irrefl 0))
                    have f6 : ∀ ad : Addr, 0 < rb.length → (some ⟨xh, oh + 1, none⟩) = some ad → g + 2 ≤ ad.block := (fun ad _ e => by cases e; exact HLG.out.2)
                    have f7 := HLA'.out hA1
                    have f8 := HLB'.out hB1
                    exact ⟨s', t', ra, rb, (some ⟨xl, ol, none⟩), (some ⟨xh, oh + 1, none⟩), 0, (ch - 1), by rw [e1], f1, by rw [e2], f2, ⟨HUU.out.2.1, HUU.out.2.2, f7, f8⟩, oA, oB, f3, f4, f5, f6, hbF⟩
              · have qB : (T + m == MB) = false := by simpa using hB1
                go_quiet (fail)
                replace oA : Own (wy.drewN nq) _ _ _ _ _ _ := oA
                replace oB : Own (wy.drewN nq) _ _ _ _ _ _ := oB
                replace hbF := drewNB hbF nq
                replace hLT := Lib.hid (show Rd (wy.drewN nq) _ _ from hLT.out)
                replace hHT := Lib.hid (show Rd (wy.drewN nq) _ _ from hHT.out)
                replace HLF := Lib.hid (show Rd (wy.drewN nq) _ _ from HLF.out)
                replace HHF := Lib.hid (show Rd (wy.drewN nq) _ _ from HHF.out)
                replace kA : (wy.drewN nq).cell? _ = _ := kA
                replace kB : (wy.drewN nq).cell? _ = _ := kB
                replace jA : (wy.drewN nq).cell? _ = _ := jA
                replace jB : (wy.drewN nq).cell? _ = _ := jB
                generalize wy.drewN nq = wx at *
                go_wp2_with fail
                go_roundg (gk - m)
                case measure => have := HUU.out.1; omega
                case rel =>
                  go_light
                  have e1 : ra.length = 0 := by have := HLN.out.1; omega
                  have e2 : (b :: rb).length = nh := HNL.out.2
                  have f1 : ra.length ≤ 0 := (by rw [e1]; exact Nat.zero_le _)
                  have f2 : (b :: rb).length ≤ ch := (by rw [e2]; exact hch)
                  have f3 : Rd wx (some ⟨xl, ol, none⟩) (ints (nats ra)) := rd_emptyN e1
                  have f4 : Rd wx (some ⟨xh, oh, none⟩) (ints (nats (b :: rb))) := HHF.out
                  have f5 : ∀ ad : Addr, 0 < ra.length → (some ⟨xl, ol, none⟩) = some ad → g + 2 ≤ ad.block := (fun ad h _ => by rw [e1] at h; exact absurd h (Nat.lt_irrefl 0))
                  have f6 : ∀ ad : Addr, 0 < (b :: rb).length → (some ⟨xh, oh, none⟩) = some ad → g + 2 ≤ ad.block := (fun ad _ e => by cases e; exact HLG.out.2)
                  have f7 := HLA'.out hA1
                  have f8 := HLB.out (by omega)
                  exact ⟨s', t', ra, (b :: rb), (some ⟨xl, ol, none⟩), (some ⟨xh, oh, none⟩), 0, ch, by rw [e1], f1, by rw [e2], f2, ⟨HUU.out.2.1, HUU.out.2.2, f7, f8⟩, oA, oB, f3, f4, f5, f6, hbF⟩
            · have hcc0 := hcc
              go_wp2_with fail
              by_cases hB1 : T + m = MB
              · have qB : (T + m == MB) = true := by simpa using hB1
                go_quiet (fail)
                replace oA : Own (wy.drewN nq) _ _ _ _ _ _ := oA
                replace oB : Own (wy.drewN nq) _ _ _ _ _ _ := oB
                replace hbF := drewNB hbF nq
                replace hLT := Lib.hid (show Rd (wy.drewN nq) _ _ from hLT.out)
                replace hHT := Lib.hid (show Rd (wy.drewN nq) _ _ from hHT.out)
                replace HLF := Lib.hid (show Rd (wy.drewN nq) _ _ from HLF.out)
                replace HHF := Lib.hid (show Rd (wy.drewN nq) _ _ from HHF.out)
                replace kA : (wy.drewN nq).cell? _ = _ := kA
                replace kB : (wy.drewN nq).cell? _ = _ := kB
                replace jA : (wy.drewN nq).cell? _ = _ := jA
                replace jB : (wy.drewN nq).cell? _ = _ := jB
                generalize wy.drewN nq = wx at *
                by_cases hdd : ch = 1
                · have hnh1 : nh = 1 := by have := HLN.out.2; omega
                  subst hnh1
                  subst hdd
                  go_wp2_with fail
                  go_roundg (gk - m)
                  case measure => have := HUU.out.1; omega
                  case rel =>
                    go_light
                    have e1 : nl - 1 = ra.length := by have := HLN.out.1; omega
                    have e2 : rb.length = 0 := by have := HLN.out.2; omega
                    have f1 : ra.length ≤ (cl - 1) := (by rw [← e1]; omega)
                    have f2 : rb.length ≤ 0 := (by rw [e2]; exact Nat.zero_le _)
                    have f3 : Rd wx (some ⟨xl, ol + 1, none⟩) (ints (nats ra)) := hLT.out
                    have f4 : Rd wx (some ⟨xh, oh, none⟩) (ints (nats rb)) := rd_emptyN e2
                    have f5 : ∀ ad : Addr, 0 < ra.length → (some ⟨xl, ol + 1, none⟩) = some ad → g + 2 ≤ ad.block := (fun ad _ e => by cases e; exact HLG.out.1)
                    have f6 : ∀ ad : Addr, 0 < rb.length → (some ⟨xh, oh, none⟩) = some ad → g + 2 ≤ ad.block := (fun ad h _ => by rw [e2] at h; exact absurd h (Nat.lt_irrefl 0))
                    have f7 := HLA'.out hA1
                    have f8 := HLB'.out hB1
                    exact ⟨s', t', ra, rb, (some ⟨xl, ol + 1, none⟩), (some ⟨xh, oh, none⟩), (cl - 1), 0, by rw [e1], f1, by rw [e2], f2, ⟨HUU.out.2.1, HUU.out.2.2, f7, f8⟩, oA, oB, f3, f4, f5, f6, hbF⟩
                · have hdd0 := hdd
                  go_wp2_with fail
                  go_roundg (gk - m)
                  case measure => have := HUU.out.1; omega
                  case rel =>
                    go_light
                    have e1 : nl - 1 = ra.length := by have := HLN.out.1; omega
                    have e2 : nh - 1 = rb.length := by have := HLN.out.2; omega
                    have f1 : ra.length ≤ (cl - 1) := (by rw [← e1]; omega)
                    have f2 : rb.length ≤ (ch - 1) := (by rw [← e2]; omega)
                    have f3 : Rd wx (some ⟨xl, ol + 1, none⟩) (ints (nats ra)) := hLT.out
                    have f4 : Rd wx (some ⟨xh, oh + 1, none⟩) (ints (nats rb)) := hHT.out
                    have f5 : ∀ ad : Addr, 0 < ra.length → (some ⟨xl, ol + 1, none⟩) = some ad → g + 2 ≤ ad.block := (fun ad _ e => by cases e; exact HLG.out.1)
                    have f6 : ∀ ad : Addr, 0 < rb.length → (some ⟨xh, oh + 1, none⟩) = some ad → g + 2 ≤ ad.block := (fun ad _ e => by cases e; exact HLG.out.2)
                    have f7 := HLA'.out hA1
                    have f8 := HLB'.out hB1
                    exact ⟨s', t', ra, rb, (some ⟨xl, ol + 1, none⟩), (some ⟨xh, oh + 1, none⟩), (cl - 1), (ch - 1), by rw [e1], f1, by rw [e2], f2, ⟨HUU.out.2.1, HUU.out.2.2, f7, f8⟩, oA, oB, f3, f4, f5, f6, hbF⟩
              · have qB : (T + m == MB) = false := by simpa using hB1
                go_quiet (fail)
                replace oA : Own (wy.drewN nq) _ _ _ _ _ _ := oA
                replace oB : Own (wy.drewN nq) _ _ _ _ _ _ := oB
                replace hbF := drewNB hbF nq
                replace hLT := Lib.hid (show Rd (wy.drewN nq) _ _ from hLT.out)
                replace hHT := Lib.hid (show Rd (wy.drewN nq) _ _ from hHT.out)
                replace HLF := Lib.hid (show Rd (wy.drewN nq) _ _ from HLF.out)
                replace HHF := Lib.hid (show Rd (wy.drewN nq) _ _ from HHF.out)
                replace kA : (wy.drewN nq).cell? _ = _ := kA
                replace kB : (wy.drewN nq).cell? _ = _ := kB
                replace jA : (wy.drewN nq).cell? _ = _ := jA
                replace jB : (wy.drewN nq).cell? _ = _ := jB
                generalize wy.drewN nq = wx at *
                go_wp2_with fail
                go_roundg (gk - m)
                case measure => have := HUU.out.1; omega
                case rel =>
                  go_light
                  have e1 : nl - 1 = ra.length := by have := HLN.out.1; omega
                  have e2 : (b :: rb).length = nh := HNL.out.2
                  have f1 : ra.length ≤ (cl - 1) := (by rw [← e1]; omega)
                  have f2 : (b :: rb).length ≤ ch := (by rw [e2]; exact hch)
                  have f3 : Rd wx (some ⟨xl, ol + 1, none⟩) (ints (nats ra)) := hLT.out
                  have f4 : Rd wx (some ⟨xh, oh, none⟩) (ints (nats (b :: rb))) := HHF.out
                  have f5 : ∀ ad : Addr, 0 < ra.length → (some ⟨xl, ol + 1, none⟩) = some ad → g + 2 ≤ ad.block := (fun ad _ e => by cases e; exact HLG.out.1)
                  have f6 : ∀ ad : Addr, 0 < (b :: rb).length → (some ⟨xh, oh, none⟩) = some ad → g + 2 ≤ ad.block := (fun ad _ e => by cases e; exact HLG.out.2)
                  have f7 := HLA'.out hA1
                  have f8 := HLB.out (by omega)
                  exact ⟨s', t', ra, (b :: rb), (some ⟨xl, ol + 1, none⟩), (some ⟨xh, oh, none⟩), (cl - 1), ch, by rw [e1], f1, by rw [e2], f2, ⟨HUU.out.2.1, HUU.out.2.2, f7, f8⟩, oA, oB, f3, f4, f5, f6, hbF⟩
          · have qA : (S + m == MA) = false := by simpa using hA1
            go_quiet (fail)
            replace oA : Own (wz.drewN nq) _ _ _ _ _ _ := oA
            replace oB : Own (wz.drewN nq) _ _ _ _ _ _ := oB
            replace hbF := drewNB hbF nq
            replace hLT := Lib.hid (show Rd (wz.drewN nq) _ _ from hLT.out)
            replace hHT := Lib.hid (show Rd (wz.drewN nq) _ _ from hHT.out)
            replace HLF := Lib.hid (show Rd (wz.drewN nq) _ _ from HLF.out)
            replace HHF := Lib.hid (show Rd (wz.drewN nq) _ _ from HHF.out)
            replace kA : (wz.drewN nq).cell? _ = _ := kA
            replace kB : (wz.drewN nq).cell? _ = _ := kB
            replace jA : (wz.drewN nq).cell? _ = _ := jA
            replace jB : (wz.drewN nq).cell? _ = _ := jB
            generalize wz.drewN nq = wy at *
            go_wp2_with fail
            by_cases hB1 : T + m = MB
            · have qB : (T + m == MB) = true := by simpa using hB1
              go_quiet (fail)
              replace oA : Own (wy.drewN nq) _ _ _ _ _ _ := oA
              replace oB : Own (wy.drewN nq) _ _ _ _ _ _ := oB
              replace hbF := drewNB hbF nq
              replace hLT := Lib.hid (show Rd (wy.drewN nq) _ _ from hLT.out)
              replace hHT := Lib.hid (show Rd (wy.drewN nq) _ _ from hHT.out)
              replace HLF := Lib.hid (show Rd (wy.drewN nq) _ _ from HLF.out)
              replace HHF := Lib.hid (show Rd (wy.drewN nq) _ _ from HHF.out)
              replace kA : (wy.drewN nq).cell? _ = _ := kA
              replace kB : (wy.drewN nq).cell? _ = _ := kB
              replace jA : (wy.drewN nq).cell? _ = _ := jA
              replace jB : (wy.drewN nq).cell? _ = _ := jB
              generalize wy.drewN nq = wx at *
              by_cases hdd : ch = 1
              · have hnh1 : nh = 1 := by have := HLN.out.2; omega
                subst hnh1
                subst hdd
                go_wp2_with fail
                go_roundg (gk - m)
                case measure => have := HUU.out.1; omega
                case rel =>
                  go_light
                  have e1 : (a :: ra).length = nl := HNL.out.1
                  have e2 : rb.length = 0 := by have := HLN.out.2; omega
                  have f1 : (a :: ra).length ≤ cl := (by rw [e1]; exact hcl)
                  have f2 : rb.length ≤ 0 := (by rw [e2]; exact Nat.zero_le _)
                  have f3 : Rd wx (some ⟨xl, ol, none⟩) (ints (nats (a :: ra))) := HLF.out
                  have f4 : Rd wx (some ⟨xh, oh, none⟩) (ints (nats rb)) := rd_emptyN e2
                  have f5 : ∀ ad : Addr, 0 < (a :: ra).length → (some ⟨xl, ol, none⟩) = some ad → g + 2 ≤ ad.block := (fun ad _ e => by cases e; exact HLG.out.1)
                  have f6 : ∀ ad : Addr, 0 < rb.length → (some ⟨xh, oh, none⟩) = some ad → g + 2 ≤ ad.block := (fun ad h _ => by rw [e2] at h; exact absurd h (Nat.lt_irrefl 0))
                  have f7 := HLA.out (by omega)
                  have f8 := HLB'.out hB1
                  exact ⟨s', t', (a :: ra), rb, (some ⟨xl, ol, none⟩), (some ⟨xh, oh, none⟩), cl, 0, by rw [e1], f1, by rw [e2], f2, ⟨HUU.out.2.1, HUU.out.2.2, f7, f8⟩, oA, oB, f3, f4, f5, f6, hbF⟩
              · have hdd0 := hdd
                go_wp2_with fail
                go_roundg (gk - m)
                case measure => have := HUU.out.1; omega
                case rel =>
                  go_light
                  have e1 : (a :: ra).length = nl := HNL.out.1
                  have e2 : nh - 1 = rb.length := by have := HLN.out.2; omega
                  have f1 : (a :: ra).length ≤ cl := (by rw [e1]; exact hcl)
                  have f2 : rb.length ≤ (ch - 1) := (by rw [← e2]; omega)
                  have f3 : Rd wx (some ⟨xl, ol, none⟩) (ints (nats (a :: ra))) := HLF.out
                  have f4 : Rd wx (some ⟨xh, oh + 1, none⟩) (ints (nats rb)) := hHT.out
                  have f5 : ∀ ad : Addr, 0 < (a :: ra).length → (some ⟨xl, ol, none⟩) = some ad → g + 2 ≤ ad.block := (fun ad _ e => by cases e; exact HLG.out.1)
                  have f6 : ∀ ad : Addr, 0 < rb.length → (some ⟨xh, oh + 1, none⟩) = some ad → g + 2 ≤ ad.block := (fun ad _ e => by cases e; exact HLG.out.2)
                  have f7 := HLA.out (by omega)
                  have f8 := HLB'.out hB1
                  exact ⟨s', t', (a :: ra), rb, (some ⟨xl, ol, none⟩), (some ⟨xh, oh + 1, none⟩), cl, (ch - 1), by rw [e1], f1, by rw [e2], f2, ⟨HUU.out.2.1, HUU.out.2.2, f7, f8⟩, oA, oB, f3, f4, f5, f6, hbF⟩
            · exfalso; omega
end Go.Proofs.YtlhfkidgmdojjaaDoor
