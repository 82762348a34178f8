/- Contracts of the program's Trade for all arguments, and of TradeMany, ClearPrice, Gain. No statement is proved here. -/
import Derived.Test.YtlhfkidgmdojjaaDoorMkI
import Derived.Test.YtlhfkidgmdojjaaDoorMkW
namespace Go.Proofs.YtlhfkidgmdojjaaDoor
open Go.RowKit

theorem sumTo_range {l : List Order} {s : List Int} (hv : sideB l = true) (h : Done l s) : ∀ k, k ≤ l.length → 0 ≤ sumTo s k ∧ sumTo s k ≤ 999 * k
  | 0, _ => by simp [sumTo]
  | k + 1, hk => by
    have ih := sumTo_range hv h k (by omega)
    have h1 := side_at hv (k := k) (by omega)
    have h2 := h.2 k (by omega)
    rw [sumTo]; omega
theorem rd_dAt {w : World} {A : Option Addr} {s : List Int} (h : Rd w A (ints s)) {k : Nat} (hk : k < s.length) : ∃ b o, A = some ⟨b, o, none⟩ ∧ b < w.heap.size ∧ w.cell? ⟨b, o + k, none⟩ = some (.int .i64 (dAt s k)) := h.int hk
theorem rd_price {w : World} {A : Option Addr} {l : List Order} (h : Rd w A (flatOrder l)) {k : Nat} (hk : k < l.length) : ∃ b o, A = some ⟨b, o, none⟩ ∧ b < w.heap.size ∧ w.cell? ⟨b, o + k * 2, none⟩ = some (.int .i64 (oAt l k).fPrice) ∧ w.cell? ⟨b, o + k * 2 + 1, none⟩ = some (.int .i64 (oAt l k).fMany) := h.atOrder hk
set_option maxHeartbeats 1000000 in
theorem implTr (A B : Option Addr) (n1 n2 c1 c2 : Nat) (asks bids : List Order) (w : World) (hn1 : asks.length = n1) (hn2 : bids.length = n2) (hm1 : n1 ≤ 1048576) (hm2 : n2 ≤ 1048576) (hA : Rd w A (flatOrder asks)) (hB : Rd w B (flatOrder bids)) :
    Calls Tryd.prog 8 #[.slice A n1 c1, .slice B n2 c2] w (RetTT (tradeV asks bids).1 (tradeV asks bids).2 w) := by
  have HA := Lib.hid hA; clear hA
  have HB := Lib.hid hB; clear hB
  have HN1 := Lib.hid hn1; clear hn1
  have HN2 := Lib.hid hn2; clear hn2
  have hb : Below w.heap.size w w := Below.refl _ _
  cases hva : sideB asks with
  | false =>
    have e : tradeV asks bids = ([], []) := by rw [tradeV, hva]; rfl
    rw [e]; clear e
    go_enter Tryd.func8, Tryd.ntmps8
    go_wp2_with fail
    refine (implSdV A n1 c1 asks _ HN1.out hm1 (HA.out.below hb)).mono ?_
    rintro e w1 ⟨rfl, hbn1⟩
    replace hb := seqB hb hbn1; clear hbn1
    rw [val_side, hva]
    go_wp2_with fail
    go_ret2
    exact ⟨none, 0, none, 0, rfl, Own.nil, Own.nil, fun a a' h => absurd h (by simp), hb⟩
  | true =>
    cases hvb : sideB bids with
    | false =>
      have e : tradeV asks bids = ([], []) := by rw [tradeV, hva, hvb]; rfl
      rw [e]; clear e
      go_enter Tryd.func8, Tryd.ntmps8
      go_wp2_with fail
      refine (implSdV A n1 c1 asks _ HN1.out hm1 (HA.out.below hb)).mono ?_
      rintro e w1 ⟨rfl, hbn1⟩
      replace hb := seqB hb hbn1; clear hbn1
      rw [val_side, hva]
      go_wp2_with fail
      refine (implSdV B n2 c2 bids _ HN2.out hm2 (HB.out.below hb)).mono ?_
      rintro e w2 ⟨rfl, hbn2⟩
      replace hb := seqB hb hbn2; clear hbn2
      rw [val_side, hvb]
      go_wp2_with fail
      go_ret2
      exact ⟨none, 0, none, 0, rfl, Own.nil, Own.nil, fun a a' h => absurd h (by simp), hb⟩
    | true =>
      rw [tradeV_ok hva hvb]
      exact implTr_ok A B n1 n2 c1 c2 asks bids w HN1.out HN2.out HA.out HB.out hva hvb
set_option maxHeartbeats 1000000 in
theorem specTM (A B : Option Addr) (n1 n2 c1 c2 : Nat) (asks bids : List Order) (w : World) (hn1 : asks.length = n1) (hn2 : bids.length = n2) (hm1 : n1 ≤ 1048576) (hm2 : n2 ≤ 1048576) (hA : Rd w A (flatOrder asks)) (hB : Rd w B (flatOrder bids)) :
    Calls Tryd.prog 16 #[.slice A n1 c1, .slice B n2 c2] w (fun e w' => e = .returned (.int .i64 (manyV asks bids)) ∧ Below w.heap.size w w') := by
  have HA := Lib.hid hA; clear hA
  have HB := Lib.hid hB; clear hB
  have HN1 := Lib.hid hn1; clear hn1
  have HN2 := Lib.hid hn2; clear hn2
  have hb : Below w.heap.size w w := Below.refl _ _
  cases hva : sideB asks with
  | false =>
    have e : manyV asks bids = -1 := by rw [manyV, hva]; rfl
    rw [e]; clear e
    go_enter Tryd.func16, Tryd.ntmps16
    go_wp2_with fail
    refine (specSdV A n1 c1 asks _ HN1.out hm1 (HA.out.below hb)).mono ?_
    rintro e w1 ⟨rfl, q1, rfl⟩
    replace hb := drewNB hb q1
    generalize w.drewN q1 = w1x at *
    rw [val_side, hva]
    go_wp2_with fail
    go_ret
    exact ⟨rfl, hb⟩
  | true =>
    cases hvb : sideB bids with
    | false =>
      have e : manyV asks bids = -1 := by rw [manyV, hva, hvb]; rfl
      rw [e]; clear e
      go_enter Tryd.func16, Tryd.ntmps16
      go_wp2_with fail
      refine (specSdV A n1 c1 asks _ HN1.out hm1 (HA.out.below hb)).mono ?_
      rintro e w1 ⟨rfl, q1, rfl⟩
      replace hb := drewNB hb q1
      generalize w.drewN q1 = w1x at *
      rw [val_side, hva]
      go_wp2_with fail
      refine (specSdV B n2 c2 bids _ HN2.out hm2 (HB.out.below hb)).mono ?_
      rintro e w2 ⟨rfl, q2, rfl⟩
      replace hb := drewNB hb q2
      generalize w1x.drewN q2 = w2x at *
      rw [val_side, hvb]
      go_wp2_with fail
      go_ret
      exact ⟨rfl, hb⟩
    | true =>
      have HE : Hid (manyV asks bids = (trade asks bids).1.sum) := by rw [Hid, manyV, hva, hvb]; rfl
      go_enter Tryd.func16, Tryd.ntmps16
      go_wp2_with fail
      refine (specSdV A n1 c1 asks _ HN1.out hm1 (HA.out.below hb)).mono ?_
      rintro e w1 ⟨rfl, q1, rfl⟩
      replace hb := drewNB hb q1
      generalize w.drewN q1 = w1x at *
      rw [val_side, hva]
      go_wp2_with fail
      refine (specSdV B n2 c2 bids _ HN2.out hm2 (HB.out.below hb)).mono ?_
      rintro e w2 ⟨rfl, q2, rfl⟩
      replace hb := drewNB hb q2
      generalize w1x.drewN q2 = w2x at *
      rw [val_side, hvb]
      go_wp2_with fail
      refine (specTr A B n1 n2 c1 c2 asks bids _ HN1.out HN2.out hm1 hm2 (HA.out.below hb) (HB.out.below hb)).mono ?_
      rintro e w3 ⟨BS, cS, BT, cT, rfl, hoS, hoT, _, hbn⟩
      replace hb := seqB hb hbn; clear hbn
      rw [tradeV_ok hva hvb] at *
      have HD := Lib.hid (And.intro (trade_inv hva hvb).ds (trade_inv hva hvb).dt)
      have hls := (trade_lens hva hvb).1
      have hlt := (trade_lens hva hvb).2
      have HV := Lib.hid (And.intro hva hvb)
      have h6a := side_len hva
      have h6b := side_len hvb
      have HSR := Lib.hid hoS.rd
      clear hoS hoT
      generalize (trade asks bids).1 = s at *
      generalize (trade asks bids).2 = t at *
      have hn6 : s.length ≤ 6 := by omega
      have HLS := Lib.hid hls; clear hls hlt h6a h6b hva hvb
      go_wp2_with fail
      go_loop [7, 8] (fun v i => ∃ k : Nat, k ≤ s.length ∧ i = .int .i64 k ∧ v = .int .i64 (sumTo s k)) (fun _ i => s.length - (intOf i).toNat)
      case atStart => exact ⟨0, by omega, rfl, rfl⟩
      case round =>
        obtain ⟨k, hk, rfl, rfl⟩ := hrel
        by_cases hlt : k < s.length
        · obtain ⟨b, o, rfl, _, hc1⟩ := rd_dAt HSR.out hlt
          have hr0 := sumTo_range HV.out.1 HD.out.1 k (by have := HLS.out; omega)
          have hr1 := sumTo_range HV.out.1 HD.out.1 (k + 1) (by have := HLS.out; omega)
          have HS : Hid (sumTo s (k + 1) = sumTo s k + dAt s k) := rfl
          rw [HS.out] at hr1
          generalize sumTo s k = S at *
          generalize dAt s k = x at *
          go_wp2_with fail
          go_round
          case rel => exact ⟨k + 1, by omega, by go_num, by rw [HS.out]⟩
          case measure => simp [intOf]; omega
        · go_wp2_with fail
          go_ret
          have hkn : k = s.length := by omega
          exact ⟨ret_int (by rw [HE.out, hkn, sumTo_all]), hb⟩
set_option maxHeartbeats 1000000 in
theorem implTM (A B : Option Addr) (n1 n2 c1 c2 : Nat) (asks bids : List Order) (w : World) (hn1 : asks.length = n1) (hn2 : bids.length = n2) (hm1 : n1 ≤ 1048576) (hm2 : n2 ≤ 1048576) (hA : Rd w A (flatOrder asks)) (hB : Rd w B (flatOrder bids)) :
    Calls Tryd.prog 15 #[.slice A n1 c1, .slice B n2 c2] w (fun e w' => e = .returned (.int .i64 (manyV asks bids)) ∧ Below w.heap.size w w') := by
  have HA := Lib.hid hA; clear hA
  have HB := Lib.hid hB; clear hB
  have HN1 := Lib.hid hn1; clear hn1
  have HN2 := Lib.hid hn2; clear hn2
  have hb : Below w.heap.size w w := Below.refl _ _
  cases hva : sideB asks with
  | false =>
    have e : manyV asks bids = -1 := by rw [manyV, hva]; rfl
    rw [e]; clear e
    go_enter Tryd.func15, Tryd.ntmps15
    go_wp2_with fail
    refine (implSdV A n1 c1 asks _ HN1.out hm1 (HA.out.below hb)).mono ?_
    rintro e w1 ⟨rfl, hbn1⟩
    replace hb := seqB hb hbn1; clear hbn1
    rw [val_side, hva]
    go_wp2_with fail
    go_ret
    exact ⟨rfl, hb⟩
  | true =>
    cases hvb : sideB bids with
    | false =>
      have e : manyV asks bids = -1 := by rw [manyV, hva, hvb]; rfl
      rw [e]; clear e
      go_enter Tryd.func15, Tryd.ntmps15
      go_wp2_with fail
      refine (implSdV A n1 c1 asks _ HN1.out hm1 (HA.out.below hb)).mono ?_
      rintro e w1 ⟨rfl, hbn1⟩
      replace hb := seqB hb hbn1; clear hbn1
      rw [val_side, hva]
      go_wp2_with fail
      refine (implSdV B n2 c2 bids _ HN2.out hm2 (HB.out.below hb)).mono ?_
      rintro e w2 ⟨rfl, hbn2⟩
      replace hb := seqB hb hbn2; clear hbn2
      rw [val_side, hvb]
      go_wp2_with fail
      go_ret
      exact ⟨rfl, hb⟩
    | true =>
      have HE : Hid (manyV asks bids = (trade asks bids).1.sum) := by rw [Hid, manyV, hva, hvb]; rfl
      go_enter Tryd.func15, Tryd.ntmps15
      go_wp2_with fail
      refine (implSdV A n1 c1 asks _ HN1.out hm1 (HA.out.below hb)).mono ?_
      rintro e w1 ⟨rfl, hbn1⟩
      replace hb := seqB hb hbn1; clear hbn1
      rw [val_side, hva]
      go_wp2_with fail
      refine (implSdV B n2 c2 bids _ HN2.out hm2 (HB.out.below hb)).mono ?_
      rintro e w2 ⟨rfl, hbn2⟩
      replace hb := seqB hb hbn2; clear hbn2
      rw [val_side, hvb]
      go_wp2_with fail
      refine (implTr A B n1 n2 c1 c2 asks bids _ HN1.out HN2.out hm1 hm2 (HA.out.below hb) (HB.out.below hb)).mono ?_
      rintro e w3 ⟨BS, cS, BT, cT, rfl, hoS, hoT, _, hbn⟩
      replace hb := seqB hb hbn; clear hbn
      rw [tradeV_ok hva hvb] at *
      have HD := Lib.hid (And.intro (trade_inv hva hvb).ds (trade_inv hva hvb).dt)
      have hls := (trade_lens hva hvb).1
      have hlt := (trade_lens hva hvb).2
      have HV := Lib.hid (And.intro hva hvb)
      have h6a := side_len hva
      have h6b := side_len hvb
      have HSR := Lib.hid hoS.rd
      clear hoS hoT
      generalize (trade asks bids).1 = s at *
      generalize (trade asks bids).2 = t at *
      have hn6 : s.length ≤ 6 := by omega
      have HLS := Lib.hid hls; clear hls hlt h6a h6b hva hvb
      go_wp2_with fail
      go_loop [7, 26] (fun v i => ∃ k : Nat, k ≤ s.length ∧ i = .int .i64 k ∧ v = .int .i64 (sumTo s k)) (fun _ i => s.length - (intOf i).toNat)
      case atStart => exact ⟨0, by omega, rfl, rfl⟩
      case round =>
        obtain ⟨k, hk, rfl, rfl⟩ := hrel
        by_cases hlt : k < s.length
        · obtain ⟨b, o, rfl, _, hc1⟩ := rd_dAt HSR.out hlt
          have hr0 := sumTo_range HV.out.1 HD.out.1 k (by have := HLS.out; omega)
          have hr1 := sumTo_range HV.out.1 HD.out.1 (k + 1) (by have := HLS.out; omega)
          have HS : Hid (sumTo s (k + 1) = sumTo s k + dAt s k) := rfl
          rw [HS.out] at hr1
          generalize sumTo s k = S at *
          generalize dAt s k = x at *
          go_wp2_with fail
          go_round
          case rel => exact ⟨k + 1, by omega, by go_num, by rw [HS.out]⟩
          case measure => simp [intOf]; omega
        · go_wp2_with fail
          go_ret
          have hkn : k = s.length := by omega
          exact ⟨ret_int (by rw [HE.out, hkn, sumTo_all]), hb⟩
set_option maxHeartbeats 1000000 in
theorem specCP (A B : Option Addr) (n1 n2 c1 c2 : Nat) (asks bids : List Order) (w : World) (hn1 : asks.length = n1) (hn2 : bids.length = n2) (hm1 : n1 ≤ 1048576) (hm2 : n2 ≤ 1048576) (hA : Rd w A (flatOrder asks)) (hB : Rd w B (flatOrder bids)) :
    Calls Tryd.prog 19 #[.slice A n1 c1, .slice B n2 c2] w (fun e w' => e = .returned (.int .i64 (priceV asks bids)) ∧ Below w.heap.size w w') := by
  have HA := Lib.hid hA; clear hA
  have HB := Lib.hid hB; clear hB
  have HN1 := Lib.hid hn1; clear hn1
  have HN2 := Lib.hid hn2; clear hn2
  have hb : Below w.heap.size w w := Below.refl _ _
  by_cases hv : sideB asks = true ∧ sideB bids = true
  case neg =>
    have e : priceV asks bids = -1 := by unfold priceV; rw [tradeV_no hv]; rfl
    rw [e]; clear e
    go_enter Tryd.func19, Tryd.ntmps19
    go_wp2_with fail
    refine (specTr A B n1 n2 c1 c2 asks bids _ HN1.out HN2.out hm1 hm2 (HA.out.below hb) (HB.out.below hb)).mono ?_
    rintro e w3 ⟨BS, cS, BT, cT, rfl, hoS, hoT, _, hbn⟩
    replace hb := seqB hb hbn; clear hbn
    rw [tradeV_no hv] at *
    clear hoS hoT
    go_wp2_with fail
    refine wp_loop_rounds 1 ?_
    rw [rounds_succ]
    go_wp2_with fail
    go_ret
    exact ⟨rfl, hb⟩
  obtain ⟨hva, hvb⟩ := hv
  have HE : Hid (priceV asks bids = priceTo asks (trade asks bids).1 (trade asks bids).1.length) := by rw [Hid, priceV, tradeV_ok hva hvb]
  go_enter Tryd.func19, Tryd.ntmps19
  go_wp2_with fail
  refine (specTr A B n1 n2 c1 c2 asks bids _ HN1.out HN2.out hm1 hm2 (HA.out.below hb) (HB.out.below hb)).mono ?_
  rintro e w3 ⟨BS, cS, BT, cT, rfl, hoS, hoT, _, hbn⟩
  replace hb := seqB hb hbn; clear hbn
  rw [tradeV_ok hva hvb] at *
  have HD := Lib.hid (And.intro (trade_inv hva hvb).ds (trade_inv hva hvb).dt)
  have hls := (trade_lens hva hvb).1
  have hlt := (trade_lens hva hvb).2
  have HV := Lib.hid (And.intro hva hvb)
  have h6a := side_len hva
  have h6b := side_len hvb
  have HSR := Lib.hid hoS.rd
  clear hoS hoT
  generalize (trade asks bids).1 = s at *
  generalize (trade asks bids).2 = t at *
  have hn6 : s.length ≤ 6 := by omega
  have HLS := Lib.hid hls; clear hls hlt h6a h6b hva hvb
  have HAR := Lib.hid (HA.out.below hb)
  go_wp2_with fail
  go_loop [7, 8] (fun v i => ∃ k : Nat, k ≤ s.length ∧ i = .int .i64 k ∧ v = .int .i64 (priceTo asks s k)) (fun _ i => s.length - (intOf i).toNat)
  case atStart => exact ⟨0, by omega, rfl, rfl⟩
  case round =>
    obtain ⟨k, hk, rfl, rfl⟩ := hrel
    by_cases hlt : k < s.length
    · obtain ⟨b, o, rfl, _, hc1⟩ := rd_dAt HSR.out hlt
      obtain ⟨b2, o2, rfl, _, hp1, _⟩ := rd_price HAR.out (k := k) (by have := HLS.out; omega)
      have hkn1 : (k : Int) < (n1 : Int) := by have := HLS.out; have := HN1.out; omega
      have hr0 := priceTo_range asks s k (fun i hi => by have h := side_at HV.out.1 (k := i) (by have := HLS.out; omega); omega)
      have hr1 := side_at HV.out.1 (k := k) (by have := HLS.out; omega)
      have HP : Hid (priceTo asks s (k + 1) = if 0 < dAt s k then max (priceTo asks s k) (oAt asks k).fPrice else priceTo asks s k) := rfl
      generalize priceTo asks s k = Q at *
      generalize dAt s k = x at *
      generalize (oAt asks k).fPrice = p at *
      generalize (oAt asks k).fMany = pm at *
      by_cases hx : 0 < x
      · go_wp2_with fail
        go_round
        case rel => exact ⟨k + 1, by omega, by go_num, by rw [HP.out, if_pos hx]⟩
        case measure => simp [intOf]; omega
      · go_wp2_with fail
        go_round
        case rel => exact ⟨k + 1, by omega, by go_num, by rw [HP.out, if_neg hx]⟩
        case measure => simp [intOf]; omega
    · go_wp2_with fail
      go_ret
      have hkn : k = s.length := by omega
      exact ⟨ret_int (by rw [HE.out, hkn]), hb⟩
set_option maxHeartbeats 1000000 in
theorem implCP (A B : Option Addr) (n1 n2 c1 c2 : Nat) (asks bids : List Order) (w : World) (hn1 : asks.length = n1) (hn2 : bids.length = n2) (hm1 : n1 ≤ 1048576) (hm2 : n2 ≤ 1048576) (hA : Rd w A (flatOrder asks)) (hB : Rd w B (flatOrder bids)) :
    Calls Tryd.prog 18 #[.slice A n1 c1, .slice B n2 c2] w (fun e w' => e = .returned (.int .i64 (priceV asks bids)) ∧ Below w.heap.size w w') := by
  have HA := Lib.hid hA; clear hA
  have HB := Lib.hid hB; clear hB
  have HN1 := Lib.hid hn1; clear hn1
  have HN2 := Lib.hid hn2; clear hn2
  have hb : Below w.heap.size w w := Below.refl _ _
  by_cases hv : sideB asks = true ∧ sideB bids = true
  case neg =>
    have e : priceV asks bids = -1 := by unfold priceV; rw [tradeV_no hv]; rfl
    rw [e]; clear e
    go_enter Tryd.func18, Tryd.ntmps18
    go_wp2_with fail
    refine (implTr A B n1 n2 c1 c2 asks bids _ HN1.out HN2.out hm1 hm2 (HA.out.below hb) (HB.out.below hb)).mono ?_
    rintro e w3 ⟨BS, cS, BT, cT, rfl, hoS, hoT, _, hbn⟩
    replace hb := seqB hb hbn; clear hbn
    rw [tradeV_no hv] at *
    clear hoS hoT
    go_wp2_with fail
    refine wp_loop_rounds 1 ?_
    rw [rounds_succ]
    go_wp2_with fail
    go_ret
    exact ⟨rfl, hb⟩
  obtain ⟨hva, hvb⟩ := hv
  have HE : Hid (priceV asks bids = priceTo asks (trade asks bids).1 (trade asks bids).1.length) := by rw [Hid, priceV, tradeV_ok hva hvb]
  go_enter Tryd.func18, Tryd.ntmps18
  go_wp2_with fail
  refine (implTr A B n1 n2 c1 c2 asks bids _ HN1.out HN2.out hm1 hm2 (HA.out.below hb) (HB.out.below hb)).mono ?_
  rintro e w3 ⟨BS, cS, BT, cT, rfl, hoS, hoT, _, hbn⟩
  replace hb := seqB hb hbn; clear hbn
  rw [tradeV_ok hva hvb] at *
  have HD := Lib.hid (And.intro (trade_inv hva hvb).ds (trade_inv hva hvb).dt)
  have hls := (trade_lens hva hvb).1
  have hlt := (trade_lens hva hvb).2
  have HV := Lib.hid (And.intro hva hvb)
  have h6a := side_len hva
  have h6b := side_len hvb
  have HSR := Lib.hid hoS.rd
  clear hoS hoT
  generalize (trade asks bids).1 = s at *
  generalize (trade asks bids).2 = t at *
  have hn6 : s.length ≤ 6 := by omega
  have HLS := Lib.hid hls; clear hls hlt h6a h6b hva hvb
  have HAR := Lib.hid (HA.out.below hb)
  go_wp2_with fail
  go_loop [7, 18] (fun v i => ∃ k : Nat, k ≤ s.length ∧ i = .int .i64 k ∧ v = .int .i64 (priceTo asks s k)) (fun _ i => s.length - (intOf i).toNat)
  case atStart => exact ⟨0, by omega, rfl, rfl⟩
  case round =>
    obtain ⟨k, hk, rfl, rfl⟩ := hrel
    by_cases hlt : k < s.length
    · obtain ⟨b, o, rfl, _, hc1⟩ := rd_dAt HSR.out hlt
      obtain ⟨b2, o2, rfl, _, hp1, _⟩ := rd_price HAR.out (k := k) (by have := HLS.out; omega)
      have hkn1 : (k : Int) < (n1 : Int) := by have := HLS.out; have := HN1.out; omega
      have hr0 := priceTo_range asks s k (fun i hi => by have h := side_at HV.out.1 (k := i) (by have := HLS.out; omega); omega)
      have hr1 := side_at HV.out.1 (k := k) (by have := HLS.out; omega)
      have HP : Hid (priceTo asks s (k + 1) = if 0 < dAt s k then max (priceTo asks s k) (oAt asks k).fPrice else priceTo asks s k) := rfl
      generalize priceTo asks s k = Q at *
      generalize dAt s k = x at *
      generalize (oAt asks k).fPrice = p at *
      generalize (oAt asks k).fMany = pm at *
      by_cases hx : 0 < x
      · go_wp2_with fail
        go_round
        case rel => exact ⟨k + 1, by omega, by go_num, by rw [HP.out, if_pos hx]⟩
        case measure => simp [intOf]; omega
      · go_wp2_with fail
        go_round
        case rel => exact ⟨k + 1, by omega, by go_num, by rw [HP.out, if_neg hx]⟩
        case measure => simp [intOf]; omega
    · go_wp2_with fail
      go_ret
      have hkn : k = s.length := by omega
      exact ⟨ret_int (by rw [HE.out, hkn]), hb⟩
set_option maxHeartbeats 1000000 in
theorem specGn (A B : Option Addr) (n1 n2 c1 c2 : Nat) (asks bids : List Order) (w : World) (hn1 : asks.length = n1) (hn2 : bids.length = n2) (hm1 : n1 ≤ 1048576) (hm2 : n2 ≤ 1048576) (hA : Rd w A (flatOrder asks)) (hB : Rd w B (flatOrder bids)) :
    Calls Tryd.prog 22 #[.slice A n1 c1, .slice B n2 c2] w (fun e w' => e = .returned (.int .i64 (gainV asks bids)) ∧ Below w.heap.size w w') := by
  have HA := Lib.hid hA; clear hA
  have HB := Lib.hid hB; clear hB
  have HN1 := Lib.hid hn1; clear hn1
  have HN2 := Lib.hid hn2; clear hn2
  have hb : Below w.heap.size w w := Below.refl _ _
  cases hva : sideB asks with
  | false =>
    have e : gainV asks bids = -1 := by rw [gainV, hva]; rfl
    rw [e]; clear e
    go_enter Tryd.func22, Tryd.ntmps22
    go_wp2_with fail
    refine (specSdV A n1 c1 asks _ HN1.out hm1 (HA.out.below hb)).mono ?_
    rintro e w1 ⟨rfl, q1, rfl⟩
    replace hb := drewNB hb q1
    generalize w.drewN q1 = w1x at *
    rw [val_side, hva]
    go_wp2_with fail
    go_ret
    exact ⟨rfl, hb⟩
  | true =>
    cases hvb : sideB bids with
    | false =>
      have e : gainV asks bids = -1 := by rw [gainV, hva, hvb]; rfl
      rw [e]; clear e
      go_enter Tryd.func22, Tryd.ntmps22
      go_wp2_with fail
      refine (specSdV A n1 c1 asks _ HN1.out hm1 (HA.out.below hb)).mono ?_
      rintro e w1 ⟨rfl, q1, rfl⟩
      replace hb := drewNB hb q1
      generalize w.drewN q1 = w1x at *
      rw [val_side, hva]
      go_wp2_with fail
      refine (specSdV B n2 c2 bids _ HN2.out hm2 (HB.out.below hb)).mono ?_
      rintro e w2 ⟨rfl, q2, rfl⟩
      replace hb := drewNB hb q2
      generalize w1x.drewN q2 = w2x at *
      rw [val_side, hvb]
      go_wp2_with fail
      go_ret
      exact ⟨rfl, hb⟩
    | true =>
      have HE : Hid (gainV asks bids = worthTo bids (trade asks bids).2 bids.length - worthTo asks (trade asks bids).1 asks.length) := by rw [Hid, gainV, hva, hvb]; rfl
      go_enter Tryd.func22, Tryd.ntmps22
      go_wp2_with fail
      refine (specSdV A n1 c1 asks _ HN1.out hm1 (HA.out.below hb)).mono ?_
      rintro e w1 ⟨rfl, q1, rfl⟩
      replace hb := drewNB hb q1
      generalize w.drewN q1 = w1x at *
      rw [val_side, hva]
      go_wp2_with fail
      refine (specSdV B n2 c2 bids _ HN2.out hm2 (HB.out.below hb)).mono ?_
      rintro e w2 ⟨rfl, q2, rfl⟩
      replace hb := drewNB hb q2
      generalize w1x.drewN q2 = w2x at *
      rw [val_side, hvb]
      go_wp2_with fail
      refine (specTr A B n1 n2 c1 c2 asks bids _ HN1.out HN2.out hm1 hm2 (HA.out.below hb) (HB.out.below hb)).mono ?_
      rintro e w3 ⟨BS, cS, BT, cT, rfl, hoS, hoT, _, hbn⟩
      replace hb := seqB hb hbn; clear hbn
      rw [tradeV_ok hva hvb] at *
      have HD := Lib.hid (And.intro (trade_inv hva hvb).ds (trade_inv hva hvb).dt)
      have hls := (trade_lens hva hvb).1
      have hlt := (trade_lens hva hvb).2
      have HV := Lib.hid (And.intro hva hvb)
      have h6a := side_len hva
      have h6b := side_len hvb
      have HSR := Lib.hid hoS.rd
      have HTR := Lib.hid hoT.rd
      clear hoS hoT
      generalize (trade asks bids).1 = s at *
      generalize (trade asks bids).2 = t at *
      have hn6 : s.length ≤ 6 := by omega
      have hn6' : t.length ≤ 6 := by omega
      have HLS := Lib.hid hls; have HLT := Lib.hid hlt; clear hls hlt h6a h6b hva hvb
      have HAR := Lib.hid (HA.out.below hb)
      have HBR := Lib.hid (HB.out.below hb)
      go_wp2_with fail
      go_loopw [7, 8] (fun v i wr => ∃ k : Nat, k ≤ s.length ∧ i = .int .i64 k ∧ v = .int .i64 (- worthTo asks s k) ∧ Hid (∃ q, wr = w3.drewN q)) (fun _ i _ => s.length - (intOf i).toNat)
      case atStart => exact ⟨0, by omega, rfl, by simp [worthTo], 0, rfl⟩
      case round =>
        obtain ⟨k, hk, rfl, rfl, hq⟩ := hrel
        by_cases hlt : k < s.length
        · have hR' : Rd wr BS (ints s) := by obtain ⟨q, rfl⟩ := hq.out; exact HSR.out.drewN q
          have hA' : Rd wr A (flatOrder asks) := by obtain ⟨q, rfl⟩ := hq.out; exact HAR.out.drewN q
          obtain ⟨b, o, rfl, _, hc1⟩ := rd_dAt hR' hlt
          obtain ⟨b2, o2, rfl, _, hp1, _⟩ := rd_price hA' (k := k) (by have := HLS.out; omega)
          have hkn1 : (k : Int) < (n1 : Int) := by have := HLS.out; have := HN1.out; omega
          have hr0 := worth_range HV.out.1 HD.out.1 k (by have := HLS.out; omega)
          have hr1 := worth_range HV.out.1 HD.out.1 (k + 1) (by have := HLS.out; omega)
          have hr2 := side_at HV.out.1 (k := k) (by have := HLS.out; omega)
          have hr3 := HD.out.1.2 k (by have := HLS.out; omega)
          have HS : Hid (worthTo asks s (k + 1) = worthTo asks s k + (oAt asks k).fPrice * dAt s k) := rfl
          have hmul : 0 ≤ (oAt asks k).fPrice * dAt s k ∧ (oAt asks k).fPrice * dAt s k ≤ 998001 := by rw [HS.out] at hr1; exact ⟨Int.mul_nonneg hr2.1 hr3.1, Int.le_trans (Int.mul_le_mul hr2.2.1 (Int.le_trans hr3.2 hr2.2.2.2) hr3.1 (by omega)) (by omega)⟩
          rw [HS.out] at hr1
          generalize worthTo asks s k = U at *
          generalize dAt s k = x at *
          generalize (oAt asks k).fPrice = p at *
          generalize (oAt asks k).fMany = pm at *
          have hcomm : x * p = p * x := Int.mul_comm _ _
          generalize hprod : p * x = z at *
          clear hR' hA'
          go_wp2_with fail
          go_quiet (fail)
          go_wp2_with fail
          go_roundw
          case rel => exact ⟨k + 1, by omega, by go_num, by rw [HS.out]; try (congr 1; omega), drewN_more hq⟩
          case measure => simp [intOf]; omega
        · have hkn : k = s.length := by omega
          subst hkn
          obtain ⟨q0, rfl⟩ := hq.out
          clear hq
          replace HTR : Hid (Rd (w3.drewN q0) _ _) := Lib.hid (HTR.out.drewN q0)
          replace HBR : Hid (Rd (w3.drewN q0) _ _) := Lib.hid (HBR.out.drewN q0)
          replace hb := drewNB hb q0
          have hr4 := worth_range HV.out.1 HD.out.1 s.length (by have := HLS.out; omega)
          have hl4 : s.length ≤ 6 := by omega
          generalize w3.drewN q0 = w4 at *
          go_wp2_with fail
          go_loopw [7, 9] (fun v i wr => ∃ k : Nat, k ≤ t.length ∧ i = .int .i64 k ∧ v = .int .i64 (worthTo bids t k - worthTo asks s s.length) ∧ Hid (∃ q, wr = w4.drewN q)) (fun _ i _ => t.length - (intOf i).toNat)
          case atStart => exact ⟨0, by omega, rfl, by simp [worthTo], 0, rfl⟩
          case round =>
            obtain ⟨k, hk, rfl, rfl, hq⟩ := hrel
            by_cases hlt : k < t.length
            · have hR' : Rd wr BT (ints t) := by obtain ⟨q, rfl⟩ := hq.out; exact HTR.out.drewN q
              have hA' : Rd wr B (flatOrder bids) := by obtain ⟨q, rfl⟩ := hq.out; exact HBR.out.drewN q
              obtain ⟨b, o, rfl, _, hc1⟩ := rd_dAt hR' hlt
              obtain ⟨b2, o2, rfl, _, hp1, _⟩ := rd_price hA' (k := k) (by have := HLT.out; omega)
              have hkn1 : (k : Int) < (n2 : Int) := by have := HLT.out; have := HN2.out; omega
              have hr0 := worth_range HV.out.2 HD.out.2 k (by have := HLT.out; omega)
              have hr1 := worth_range HV.out.2 HD.out.2 (k + 1) (by have := HLT.out; omega)
              have hr2 := side_at HV.out.2 (k := k) (by have := HLT.out; omega)
              have hr3 := HD.out.2.2 k (by have := HLT.out; omega)
              have HS : Hid (worthTo bids t (k + 1) = worthTo bids t k + (oAt bids k).fPrice * dAt t k) := rfl
              have hmul : 0 ≤ (oAt bids k).fPrice * dAt t k ∧ (oAt bids k).fPrice * dAt t k ≤ 998001 := by rw [HS.out] at hr1; exact ⟨Int.mul_nonneg hr2.1 hr3.1, Int.le_trans (Int.mul_le_mul hr2.2.1 (Int.le_trans hr3.2 hr2.2.2.2) hr3.1 (by omega)) (by omega)⟩
              rw [HS.out] at hr1
              generalize worthTo bids t k = U at *
              generalize dAt t k = x at *
              generalize (oAt bids k).fPrice = p at *
              generalize (oAt bids k).fMany = pm at *
              have hcomm : x * p = p * x := Int.mul_comm _ _
              generalize hprod : p * x = z at *
              clear hR' hA'
              go_wp2_with fail
              go_quiet (fail)
              go_wp2_with fail
              go_roundw
              case rel => exact ⟨k + 1, by omega, by go_num, by rw [HS.out]; try (congr 1; omega), drewN_more hq⟩
              case measure => simp [intOf]; omega
            · have hkn : k = t.length := by omega
              subst hkn
              go_wp2_with fail
              go_ret
              obtain ⟨q, rfl⟩ := hq.out
              exact ⟨ret_int (by rw [HE.out, ← HLS.out, ← HLT.out]), drewNB hb q⟩
set_option maxHeartbeats 1000000 in
theorem implGn (A B : Option Addr) (n1 n2 c1 c2 : Nat) (asks bids : List Order) (w : World) (hn1 : asks.length = n1) (hn2 : bids.length = n2) (hm1 : n1 ≤ 1048576) (hm2 : n2 ≤ 1048576) (hA : Rd w A (flatOrder asks)) (hB : Rd w B (flatOrder bids)) :
    Calls Tryd.prog 21 #[.slice A n1 c1, .slice B n2 c2] w (fun e w' => e = .returned (.int .i64 (gainV asks bids)) ∧ Below w.heap.size w w') := by
  have HA := Lib.hid hA; clear hA
  have HB := Lib.hid hB; clear hB
  have HN1 := Lib.hid hn1; clear hn1
  have HN2 := Lib.hid hn2; clear hn2
  have hb : Below w.heap.size w w := Below.refl _ _
  cases hva : sideB asks with
  | false =>
    have e : gainV asks bids = -1 := by rw [gainV, hva]; rfl
    rw [e]; clear e
    go_enter Tryd.func21, Tryd.ntmps21
    go_wp2_with fail
    refine (implSdV A n1 c1 asks _ HN1.out hm1 (HA.out.below hb)).mono ?_
    rintro e w1 ⟨rfl, hbn1⟩
    replace hb := seqB hb hbn1; clear hbn1
    rw [val_side, hva]
    go_wp2_with fail
    go_ret
    exact ⟨rfl, hb⟩
  | true =>
    cases hvb : sideB bids with
    | false =>
      have e : gainV asks bids = -1 := by rw [gainV, hva, hvb]; rfl
      rw [e]; clear e
      go_enter Tryd.func21, Tryd.ntmps21
      go_wp2_with fail
      refine (implSdV A n1 c1 asks _ HN1.out hm1 (HA.out.below hb)).mono ?_
      rintro e w1 ⟨rfl, hbn1⟩
      replace hb := seqB hb hbn1; clear hbn1
      rw [val_side, hva]
      go_wp2_with fail
      refine (implSdV B n2 c2 bids _ HN2.out hm2 (HB.out.below hb)).mono ?_
      rintro e w2 ⟨rfl, hbn2⟩
      replace hb := seqB hb hbn2; clear hbn2
      rw [val_side, hvb]
      go_wp2_with fail
      go_ret
      exact ⟨rfl, hb⟩
    | true =>
      have HE : Hid (gainV asks bids = worthTo bids (trade asks bids).2 bids.length - worthTo asks (trade asks bids).1 asks.length) := by rw [Hid, gainV, hva, hvb]; rfl
      go_enter Tryd.func21, Tryd.ntmps21
      go_wp2_with fail
      refine (implSdV A n1 c1 asks _ HN1.out hm1 (HA.out.below hb)).mono ?_
      rintro e w1 ⟨rfl, hbn1⟩
      replace hb := seqB hb hbn1; clear hbn1
      rw [val_side, hva]
      go_wp2_with fail
      refine (implSdV B n2 c2 bids _ HN2.out hm2 (HB.out.below hb)).mono ?_
      rintro e w2 ⟨rfl, hbn2⟩
      replace hb := seqB hb hbn2; clear hbn2
      rw [val_side, hvb]
      go_wp2_with fail
      refine (implTr A B n1 n2 c1 c2 asks bids _ HN1.out HN2.out hm1 hm2 (HA.out.below hb) (HB.out.below hb)).mono ?_
      rintro e w3 ⟨BS, cS, BT, cT, rfl, hoS, hoT, _, hbn⟩
      replace hb := seqB hb hbn; clear hbn
      rw [tradeV_ok hva hvb] at *
      have HD := Lib.hid (And.intro (trade_inv hva hvb).ds (trade_inv hva hvb).dt)
      have hls := (trade_lens hva hvb).1
      have hlt := (trade_lens hva hvb).2
      have HV := Lib.hid (And.intro hva hvb)
      have h6a := side_len hva
      have h6b := side_len hvb
      have HSR := Lib.hid hoS.rd
      have HTR := Lib.hid hoT.rd
      clear hoS hoT
      generalize (trade asks bids).1 = s at *
      generalize (trade asks bids).2 = t at *
      have hn6 : s.length ≤ 6 := by omega
      have hn6' : t.length ≤ 6 := by omega
      have HLS := Lib.hid hls; have HLT := Lib.hid hlt; clear hls hlt h6a h6b hva hvb
      have HAR := Lib.hid (HA.out.below hb)
      have HBR := Lib.hid (HB.out.below hb)
      go_wp2_with fail
      go_loopw [7, 28] (fun v i wr => ∃ k : Nat, k ≤ t.length ∧ i = .int .i64 k ∧ v = .int .i64 (worthTo bids t k) ∧ Hid (∃ q, wr = w3.drewN q)) (fun _ i _ => t.length - (intOf i).toNat)
      case atStart => exact ⟨0, by omega, rfl, by simp [worthTo], 0, rfl⟩
      case round =>
        obtain ⟨k, hk, rfl, rfl, hq⟩ := hrel
        by_cases hlt : k < t.length
        · have hR' : Rd wr BT (ints t) := by obtain ⟨q, rfl⟩ := hq.out; exact HTR.out.drewN q
          have hA' : Rd wr B (flatOrder bids) := by obtain ⟨q, rfl⟩ := hq.out; exact HBR.out.drewN q
          obtain ⟨b, o, rfl, _, hc1⟩ := rd_dAt hR' hlt
          obtain ⟨b2, o2, rfl, _, hp1, _⟩ := rd_price hA' (k := k) (by have := HLT.out; omega)
          have hkn1 : (k : Int) < (n2 : Int) := by have := HLT.out; have := HN2.out; omega
          have hr0 := worth_range HV.out.2 HD.out.2 k (by have := HLT.out; omega)
          have hr1 := worth_range HV.out.2 HD.out.2 (k + 1) (by have := HLT.out; omega)
          have hr2 := side_at HV.out.2 (k := k) (by have := HLT.out; omega)
          have hr3 := HD.out.2.2 k (by have := HLT.out; omega)
          have HS : Hid (worthTo bids t (k + 1) = worthTo bids t k + (oAt bids k).fPrice * dAt t k) := rfl
          have hmul : 0 ≤ (oAt bids k).fPrice * dAt t k ∧ (oAt bids k).fPrice * dAt t k ≤ 998001 := by rw [HS.out] at hr1; exact ⟨Int.mul_nonneg hr2.1 hr3.1, Int.le_trans (Int.mul_le_mul hr2.2.1 (Int.le_trans hr3.2 hr2.2.2.2) hr3.1 (by omega)) (by omega)⟩
          rw [HS.out] at hr1
          generalize worthTo bids t k = U at *
          generalize dAt t k = x at *
          generalize (oAt bids k).fPrice = p at *
          generalize (oAt bids k).fMany = pm at *
          have hcomm : x * p = p * x := Int.mul_comm _ _
          generalize hprod : p * x = z at *
          clear hR' hA'
          go_wp2_with fail
          go_roundw
          case rel => exact ⟨k + 1, by omega, by go_num, by rw [HS.out]; try (congr 1; omega), hq⟩
          case measure => simp [intOf]; omega
        · have hkn : k = t.length := by omega
          subst hkn
          obtain ⟨q0, rfl⟩ := hq.out
          clear hq
          replace HSR : Hid (Rd (w3.drewN q0) _ _) := Lib.hid (HSR.out.drewN q0)
          replace HAR : Hid (Rd (w3.drewN q0) _ _) := Lib.hid (HAR.out.drewN q0)
          replace hb := drewNB hb q0
          have hr4 := worth_range HV.out.2 HD.out.2 t.length (by have := HLT.out; omega)
          have hl4 : t.length ≤ 6 := by omega
          generalize w3.drewN q0 = w4 at *
          go_wp2_with fail
          go_loopw [7, 45] (fun v i wr => ∃ k : Nat, k ≤ s.length ∧ i = .int .i64 k ∧ v = .int .i64 (worthTo bids t t.length - worthTo asks s k) ∧ Hid (∃ q, wr = w4.drewN q)) (fun _ i _ => s.length - (intOf i).toNat)
          case atStart => exact ⟨0, by omega, rfl, by simp [worthTo], 0, rfl⟩
          case round =>
            obtain ⟨k, hk, rfl, rfl, hq⟩ := hrel
            by_cases hlt : k < s.length
            · have hR' : Rd wr BS (ints s) := by obtain ⟨q, rfl⟩ := hq.out; exact HSR.out.drewN q
              have hA' : Rd wr A (flatOrder asks) := by obtain ⟨q, rfl⟩ := hq.out; exact HAR.out.drewN q
              obtain ⟨b, o, rfl, _, hc1⟩ := rd_dAt hR' hlt
              obtain ⟨b2, o2, rfl, _, hp1, _⟩ := rd_price hA' (k := k) (by have := HLS.out; omega)
              have hkn1 : (k : Int) < (n1 : Int) := by have := HLS.out; have := HN1.out; omega
              have hr0 := worth_range HV.out.1 HD.out.1 k (by have := HLS.out; omega)
              have hr1 := worth_range HV.out.1 HD.out.1 (k + 1) (by have := HLS.out; omega)
              have hr2 := side_at HV.out.1 (k := k) (by have := HLS.out; omega)
              have hr3 := HD.out.1.2 k (by have := HLS.out; omega)
              have HS : Hid (worthTo asks s (k + 1) = worthTo asks s k + (oAt asks k).fPrice * dAt s k) := rfl
              have hmul : 0 ≤ (oAt asks k).fPrice * dAt s k ∧ (oAt asks k).fPrice * dAt s k ≤ 998001 := by rw [HS.out] at hr1; exact ⟨Int.mul_nonneg hr2.1 hr3.1, Int.le_trans (Int.mul_le_mul hr2.2.1 (Int.le_trans hr3.2 hr2.2.2.2) hr3.1 (by omega)) (by omega)⟩
              rw [HS.out] at hr1
              generalize worthTo asks s k = U at *
              generalize dAt s k = x at *
              generalize (oAt asks k).fPrice = p at *
              generalize (oAt asks k).fMany = pm at *
              have hcomm : x * p = p * x := Int.mul_comm _ _
              generalize hprod : p * x = z at *
              clear hR' hA'
              go_wp2_with fail
              go_roundw
              case rel => exact ⟨k + 1, by omega, by go_num, by rw [HS.out]; try (congr 1; omega), hq⟩
              case measure => simp [intOf]; omega
            · have hkn : k = s.length := by omega
              subst hkn
              go_wp2_with fail
              go_ret
              obtain ⟨q, rfl⟩ := hq.out
              exact ⟨ret_int (by rw [HE.out, ← HLS.out, ← HLT.out]), drewNB hb q⟩
theorem specTM2 (A : Option Addr) (n1 c1 : Nat) (asks : List Order) (B : Option Addr) (n2 c2 : Nat) (bids : List Order) (w : World) (hn1 : asks.length = n1) (hm1 : n1 ≤ 1048576) (hA : Rd w A (flatOrder asks)) (hn2 : bids.length = n2) (hm2 : n2 ≤ 1048576) (hB : Rd w B (flatOrder bids)) :
    Calls Tryd.prog 16 #[.slice A n1 c1, .slice B n2 c2] w (fun e w' => e = .returned (.int .i64 (manyV asks bids)) ∧ Below w.heap.size w w') := specTM A B n1 n2 c1 c2 asks bids w hn1 hn2 hm1 hm2 hA hB
theorem implTM2 (A : Option Addr) (n1 c1 : Nat) (asks : List Order) (B : Option Addr) (n2 c2 : Nat) (bids : List Order) (w : World) (hn1 : asks.length = n1) (hm1 : n1 ≤ 1048576) (hA : Rd w A (flatOrder asks)) (hn2 : bids.length = n2) (hm2 : n2 ≤ 1048576) (hB : Rd w B (flatOrder bids)) :
    Calls Tryd.prog 15 #[.slice A n1 c1, .slice B n2 c2] w (fun e w' => e = .returned (.int .i64 (manyV asks bids)) ∧ Below w.heap.size w w') := implTM A B n1 n2 c1 c2 asks bids w hn1 hn2 hm1 hm2 hA hB
theorem specCP2 (A : Option Addr) (n1 c1 : Nat) (asks : List Order) (B : Option Addr) (n2 c2 : Nat) (bids : List Order) (w : World) (hn1 : asks.length = n1) (hm1 : n1 ≤ 1048576) (hA : Rd w A (flatOrder asks)) (hn2 : bids.length = n2) (hm2 : n2 ≤ 1048576) (hB : Rd w B (flatOrder bids)) :
    Calls Tryd.prog 19 #[.slice A n1 c1, .slice B n2 c2] w (fun e w' => e = .returned (.int .i64 (priceV asks bids)) ∧ Below w.heap.size w w') := specCP A B n1 n2 c1 c2 asks bids w hn1 hn2 hm1 hm2 hA hB
theorem implCP2 (A : Option Addr) (n1 c1 : Nat) (asks : List Order) (B : Option Addr) (n2 c2 : Nat) (bids : List Order) (w : World) (hn1 : asks.length = n1) (hm1 : n1 ≤ 1048576) (hA : Rd w A (flatOrder asks)) (hn2 : bids.length = n2) (hm2 : n2 ≤ 1048576) (hB : Rd w B (flatOrder bids)) :
    Calls Tryd.prog 18 #[.slice A n1 c1, .slice B n2 c2] w (fun e w' => e = .returned (.int .i64 (priceV asks bids)) ∧ Below w.heap.size w w') := implCP A B n1 n2 c1 c2 asks bids w hn1 hn2 hm1 hm2 hA hB
theorem specGn2 (A : Option Addr) (n1 c1 : Nat) (asks : List Order) (B : Option Addr) (n2 c2 : Nat) (bids : List Order) (w : World) (hn1 : asks.length = n1) (hm1 : n1 ≤ 1048576) (hA : Rd w A (flatOrder asks)) (hn2 : bids.length = n2) (hm2 : n2 ≤ 1048576) (hB : Rd w B (flatOrder bids)) :
    Calls Tryd.prog 22 #[.slice A n1 c1, .slice B n2 c2] w (fun e w' => e = .returned (.int .i64 (gainV asks bids)) ∧ Below w.heap.size w w') := specGn A B n1 n2 c1 c2 asks bids w hn1 hn2 hm1 hm2 hA hB
theorem implGn2 (A : Option Addr) (n1 c1 : Nat) (asks : List Order) (B : Option Addr) (n2 c2 : Nat) (bids : List Order) (w : World) (hn1 : asks.length = n1) (hm1 : n1 ≤ 1048576) (hA : Rd w A (flatOrder asks)) (hn2 : bids.length = n2) (hm2 : n2 ≤ 1048576) (hB : Rd w B (flatOrder bids)) :
    Calls Tryd.prog 21 #[.slice A n1 c1, .slice B n2 c2] w (fun e w' => e = .returned (.int .i64 (gainV asks bids)) ∧ Below w.heap.size w w') := implGn A B n1 n2 c1 c2 asks bids w hn1 hn2 hm1 hm2 hA hB
end Go.Proofs.YtlhfkidgmdojjaaDoor
