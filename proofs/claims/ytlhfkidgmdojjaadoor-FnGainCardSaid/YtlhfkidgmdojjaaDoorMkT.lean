/- The contract of the reference's Trade. No statement is proved here. -/
import Derived.Test.YtlhfkidgmdojjaaDoorMkP
import Derived.Test.YtlhfkidgmdojjaaDoorValOrder
import Derived.Deep.LoopGhost
namespace Go.Proofs.YtlhfkidgmdojjaaDoor
open Go.RowKit

theorem val_side (l : List Order) : valOrder l = sideB l := rfl
def tradeV (asks bids : List Order) : List Int × List Int := if sideB asks && sideB bids then trade asks bids else ([], [])
/-- two slices of its own, in two blocks -/
def RetTT (s t : List Int) (w : World) (e : Ending) (w' : World) : Prop :=
  ∃ B c D d, e = .returned (.tuple #[.slice B s.length c, .slice D t.length d]) ∧ Own w' w.heap.size 3 1 B s.length (ints s) ∧ Own w' w.heap.size 3 1 D t.length (ints t) ∧ (∀ a a', 0 < s.length → 0 < t.length → B = some a → D = some a' → a.block ≠ a'.block) ∧ Below w.heap.size w w'
theorem own_other {w : World} {base n g g' j : Nat} {u : Value} {E : TypeId} {size : Nat} {cs : List Value} (hown : Own w base E size (some ⟨g', 0, none⟩) n cs) (hne : g' ≠ g) : Own (w.setCell ⟨g, j, none⟩ u) base E size (some ⟨g', 0, none⟩) n cs := by
  refine ⟨hown.1, fun hn => ?_⟩
  obtain ⟨g2, cur, e, hge, hgg, ht⟩ := hown.2 hn
  cases e
  exact ⟨g', cur, rfl, hge, (Below.heap_setCell w ⟨g, j, none⟩ u g' (by simpa using hne)).trans hgg, ht⟩
theorem ints_set (s : List Int) (k : Nat) (v : Int) : (ints s).set k (.int .i64 v) = ints (s.set k v) := by simp [ints, List.map_set]
theorem own_int {w : World} {base n g : Nat} {s : List Int} (h : Own w base 3 1 (some ⟨g, 0, none⟩) n (ints s)) {k : Nat} (hk : k < n) : w.cell? ⟨g, k, none⟩ = some (.int .i64 (dAt s k)) ∧ w.frozen? ⟨g, k, none⟩ = false := by
  have hl := h.1
  rw [ints_length, Nat.mul_one] at hl
  refine ⟨?_, h.frozen (by omega) k⟩
  rw [h.cell (by omega) k (by omega)]
  simp [ints, dAt, show k < s.length by omega]
theorem own_len {w : World} {base n : Nat} {A : Option Addr} {s : List Int} (h : Own w base 3 1 A n (ints s)) : s.length = n := by
  have hl := h.1
  rwa [ints_length, Nat.mul_one] at hl
theorem zeros_ints (n : Nat) : ints (zeros n) = List.replicate n (.int .i64 0) := by simp [ints, zeros]
theorem trade_lens {asks bids : List Order} (ha : sideB asks = true) (hb : sideB bids = true) : (trade asks bids).1.length = asks.length ∧ (trade asks bids).2.length = bids.length :=
  ⟨(trade_inv ha hb).ds.1, (trade_inv ha hb).dt.1⟩

set_option maxHeartbeats 2000000 in
theorem specTr_ok (A B : Option Addr) (n1 n2 c1 c2 : Nat) (asks bids : List Order) (w : World) (hn1 : asks.length = n1) (hn2 : bids.length = n2) (hA : Rd w A (flatOrder asks)) (hB : Rd w B (flatOrder bids)) (hva : sideB asks = true) (hvb : sideB bids = true) :
    Calls Tryd.prog 9 #[.slice A n1 c1, .slice B n2 c2] w (RetTT (trade asks bids).1 (trade asks bids).2 w) := by
  have h61 := side_len hva
  have h62 := side_len hvb
  have hm1 : n1 ≤ 6 := by omega
  have hm2 : n2 ≤ 6 := by omega
  have HA := Lib.hid hA; clear hA
  have HB := Lib.hid hB; clear hB
  have HN1 := Lib.hid hn1; clear hn1 h61
  have HN2 := Lib.hid hn2; clear hn2 h62
  have HVA := Lib.hid hva; clear hva
  have HVB := Lib.hid hvb; clear hvb
  obtain ⟨i0, hi0, hz0, hz1, hz2⟩ := info_parts info_int
  have HI := Lib.hid (And.intro hi0 (And.intro hz0 (And.intro hz1 hz2))); clear hi0 hz0 hz1 hz2
  go_enter Tryd.func9, Tryd.ntmps9
  go_wp2_with fail
  refine (specSdV A n1 c1 asks _ HN1.out (by omega) HA.out).mono ?_
  rintro e w' ⟨rfl, q1, rfl⟩
  rw [val_side, HVA.out]
  go_wp2_with fail
  refine (specSdV B n2 c2 bids _ HN2.out (by omega) (HB.out.drewN q1)).mono ?_
  rintro e w' ⟨rfl, q2, rfl⟩
  rw [val_side, HVB.out]
  have hb0 := drewNB (drewNB (Below.refl w.heap.size w) q1) q2
  rw [World.drewN_drewN] at hb0 ⊢
  have hsz0 : w.heap.size ≤ (w.drewN (q1 + q2)).heap.size := hb0.size
  generalize w.drewN (q1 + q2) = w0 at *
  go_wp2_with (first | (at_make; refine wpList_make_full _ rfl _ _ _ rfl w0.heap.size 3 i0 (.int .i64 0) 1 Tryd.underlying26 HI.out.1 HI.out.2.1 HI.out.2.2.1 .i64 .i64 n1 n1 n1 rfl rfl rfl rfl (by rw [HI.out.2.2.2]; omega) (by unfold maxLen; omega) (Nat.le_refl _) ?_; intro w1 hown1 hg1; have hb1 := seqB hb0 ((Below.refl w0.heap.size w0).grown hg1 (Nat.le_refl _) (by simp)); clear hb0) | (at_make; refine wpList_make_full _ rfl _ _ _ rfl w1.heap.size 3 i0 (.int .i64 0) 1 Tryd.underlying26 HI.out.1 HI.out.2.1 HI.out.2.2.1 .i64 .i64 n2 n2 n2 rfl rfl rfl rfl (by rw [HI.out.2.2.2]; omega) (by unfold maxLen; omega) (Nat.le_refl _) ?_; intro w2 hown2 hg2; have hbx := (Below.refl w1.heap.size w1).grown hg2 (Nat.le_refl _) (by simp)))
  have ho1 : Own w1 w0.heap.size 3 1 (some ⟨w0.heap.size, 0, none⟩) n1 (ints (zeros n1)) := by
    have h : w1.ownsRow w0.heap.size 3 1 (.slice (some ⟨w0.heap.size, 0, none⟩) n1 n1) n1 (ints (zeros n1)) := by
      rw [zeros_ints]; simpa [Value.cells, toList_madeCells_one] using hown1
    obtain ⟨_, _, e, ho⟩ := own_of_row h
    cases e; exact ho
  have ho2 : Own w2 w1.heap.size 3 1 (some ⟨w1.heap.size, 0, none⟩) n2 (ints (zeros n2)) := by
    have h : w2.ownsRow w1.heap.size 3 1 (.slice (some ⟨w1.heap.size, 0, none⟩) n2 n2) n2 (ints (zeros n2)) := by
      rw [zeros_ints]; simpa [Value.cells, toList_madeCells_one] using hown2
    obtain ⟨_, _, e, ho⟩ := own_of_row h
    cases e; exact ho
  have HLT : Hid (0 < n1 → w0.heap.size < w1.heap.size) := fun h => ho1.lt _ h rfl
  have hle1 := hb1.size
  replace hb1 := seqB hb1 hbx
  replace ho1 := ho1.below hbx
  clear hown1 hown2 hg1 hg2 hbx
  generalize w0.heap.size = gA at *
  generalize w1.heap.size = gB at *
  refine (pickA A (some ⟨gA, 0, none⟩) n1 c1 n1 asks (zeros n1) _ HN1.out (own_len ho1) (by omega) (HA.out.below hb1) ho1.rd).mono ?_
  rintro e w' ⟨rfl, q3, rfl⟩
  go_wp2_with fail
  refine (pickB B (some ⟨gB, 0, none⟩) n2 c2 n2 bids (zeros n2) _ HN2.out (own_len ho2) (by omega) ((HB.out.below hb1).drewN q3) (ho2.rd.drewN q3)).mono ?_
  rintro e w' ⟨rfl, q4, rfl⟩
  rw [World.drewN_drewN]
  replace hb1 := drewNB hb1 (q3 + q4)
  replace ho1 : Own (w2.drewN (q3 + q4)) _ _ _ _ _ _ := ho1
  replace ho2 : Own (w2.drewN (q3 + q4)) _ _ _ _ _ _ := ho2
  generalize w2.drewN (q3 + q4) = w3 at *
  have HT0 : Hid (TInv asks bids (zeros n1) (zeros n2) ∧ tradeU asks bids (units asks).toNat (zeros n1) (zeros n2) = trade asks bids) := by
    rw [Hid, ← HN1.out, ← HN2.out]; exact ⟨tinv_zeros HVA.out HVB.out, rfl⟩
  go_wp2_with fail
  go_loopg [8, 9] (units asks).toNat (fun f va vb wr => ∃ s t : List Int, va = .int .i64 (pick asks s false) ∧ vb = .int .i64 (pick bids t true) ∧ Hid (TInv asks bids s t ∧ tradeU asks bids f s t = trade asks bids) ∧ Own wr gA 3 1 (some ⟨gA, 0, none⟩) n1 (ints s) ∧ Own wr gB 3 1 (some ⟨gB, 0, none⟩) n2 (ints t) ∧ Below w.heap.size w wr)
  case atStart => exact ⟨_, _, rfl, rfl, HT0, ho1, ho2, hb1⟩
  case round =>
    clear ho1 ho2 hb1 HT0
    obtain ⟨s, t, rfl, rfl, HTI, ho1, ho2, hb1⟩ := hrel
    have STOP : Hid (¬ (0 ≤ pick asks s false ∧ 0 ≤ pick bids t true ∧ (oAt asks (pick asks s false).toNat).fPrice ≤ (oAt bids (pick bids t true).toNat).fPrice) → ∀ q : Nat, RetTT (trade asks bids).1 (trade asks bids).2 w (.returned (.tuple #[.slice (some ⟨gA, 0, none⟩) n1 n1, .slice (some ⟨gB, 0, none⟩) n2 n2])) (wr.drewN q)) := by
      intro h q
      have e := HTI.out.2
      rw [tradeU_stop _ h] at e
      rw [← e]
      have l1 := own_len ho1
      have l2 := own_len ho2
      refine ⟨some ⟨gA, 0, none⟩, n1, some ⟨gB, 0, none⟩, n2, ?_, ?_, ?_, ?_, drewNB hb1 q⟩
      · rw [l1, l2]
      · rw [l1]; exact (show Own (wr.drewN q) _ _ _ _ _ _ from ho1).mono (by omega)
      · rw [l2]; exact (show Own (wr.drewN q) _ _ _ _ _ _ from ho2).mono (by omega)
      · rw [l1]; intro a a' h0 _ ea ed; cases ea; cases ed; exact Nat.ne_of_lt (HLT.out h0)
    rcases pick_cases asks s false with ⟨ea, _⟩ | ⟨a, ea, ha⟩
    · have HS := Lib.hid (STOP.out (by rw [ea]; omega))
      rw [ea]
      clear STOP
      go_wp2_with fail
      go_quiet (fail)
      go_wp2_with fail
      go_ret2
      exact HS.out _
    · have EA := Lib.hid ea
      rw [ea]
      clear ea
      have HAP := Lib.hid ha
      have ha1 := ha.1
      clear ha
      have ha0 : (0 : Int) ≤ (a : Int) := by omega
      rcases pick_cases bids t true with ⟨eb, _⟩ | ⟨b, eb, hb⟩
      · have HS := Lib.hid (STOP.out (by rw [eb]; omega))
        rw [eb]
        clear STOP
        go_wp2_with fail
        go_quiet (fail)
        go_wp2_with fail
        go_ret2
        exact HS.out _
      · have EB := Lib.hid eb
        rw [eb]
        clear eb
        have HBP := Lib.hid hb
        have hb1' := hb.1
        clear hb
        have hb0' : (0 : Int) ≤ (b : Int) := by omega
        have han : (a : Int) < (n1 : Int) := by have := HN1.out; omega
        have hbn : (b : Int) < (n2 : Int) := by have := HN2.out; omega
        have ha2 : a < n1 := by omega
        have hb2 : b < n2 := by omega
        clear ha1 hb1'
        obtain ⟨x1, o1, rfl, _, hp1, _⟩ := (HA.out.below hb1).atOrder (k := a) (by have := HN1.out; omega)
        obtain ⟨x2, o2, rfl, _, hp2, _⟩ := (HB.out.below hb1).atOrder (k := b) (by have := HN2.out; omega)
        generalize hP1 : (asks.getD a Order.zero).fPrice = P1 at *
        generalize hP2 : (bids.getD b Order.zero).fPrice = P2 at *
        have HP := Lib.hid (And.intro hP1 hP2); clear hP1 hP2
        by_cases hle : P1 ≤ P2
        case neg =>
          have hd : decide (P1 ≤ P2) = false := decide_eq_false hle
          have HS := Lib.hid (STOP.out (by rw [EA.out, EB.out]; simp only [Int.toNat_natCast, oAt]; rw [HP.out.1, HP.out.2]; omega))
          clear STOP
          go_wp2_with fail
          go_quiet (fail)
          go_wp2_with fail
          go_ret2
          exact HS.out _
        clear STOP
        go_wp2_with fail
        go_quiet (fail)
        have hne := HLT.out (by omega)
        obtain ⟨hd1, hd2⟩ := own_int (show Own (wr.drewN nq) _ _ _ _ _ _ from ho1) ha2
        obtain ⟨he1, he2⟩ := own_int (show Own (wr.drewN nq) _ _ _ _ _ _ from ho2) hb2
        have hS : 0 ≤ dAt s a ∧ dAt s a ≤ 999 := by
          have h1 := HTI.out.1.ds.2 a HAP.out.1
          have h2 := side_at HVA.out HAP.out.1
          omega
        have hT : 0 ≤ dAt t b ∧ dAt t b ≤ 999 := by
          have h1 := HTI.out.1.dt.2 b HBP.out.1
          have h2 := side_at HVB.out HBP.out.1
          omega
        have oA : Own (((wr.drewN nq).setCell ⟨gA, a, none⟩ (.int .i64 (dAt s a + 1))).setCell ⟨gB, b, none⟩ (.int .i64 (dAt t b + 1))) gA 3 1 (some ⟨gA, 0, none⟩) n1 (ints (s.set a (dAt s a + 1))) := by
          rw [← ints_set]
          exact own_other ((show Own (wr.drewN nq) _ _ _ _ _ _ from ho1).set a _) (by omega)
        have oB : Own (((wr.drewN nq).setCell ⟨gA, a, none⟩ (.int .i64 (dAt s a + 1))).setCell ⟨gB, b, none⟩ (.int .i64 (dAt t b + 1))) gB 3 1 (some ⟨gB, 0, none⟩) n2 (ints (t.set b (dAt t b + 1))) := by
          rw [← ints_set]
          exact (own_other (show Own (wr.drewN nq) _ _ _ _ _ _ from ho2) (by omega)).set b _
        have hbF : Below w.heap.size w (((wr.drewN nq).setCell ⟨gA, a, none⟩ (.int .i64 (dAt s a + 1))).setCell ⟨gB, b, none⟩ (.int .i64 (dAt t b + 1))) := (((drewNB hb1 nq).setCell (p := ⟨gA, a, none⟩) (by simp; omega) _).setCell (p := ⟨gB, b, none⟩) (by simp; omega) _)
        have he3 : ((wr.drewN nq).setCell ⟨gA, a, none⟩ (.int .i64 (dAt s a + 1))).cell? ⟨gB, b, none⟩ = some (.int .i64 (dAt t b)) := (World.cell?_setCell_other _ ⟨gA, a, none⟩ ⟨gB, b, none⟩ _ (by intro e; have := congrArg Addr.block e; simp at this; omega)).trans he1
        have HNX : Hid (∃ f, gk = f + 1 ∧ tradeU asks bids f (s.set a (dAt s a + 1)) (t.set b (dAt t b + 1)) = trade asks bids) := by
          cases gk with
          | zero =>
            exfalso
            have e := HTI.out.2
            rw [tradeU] at e
            have h := trade_end HVA.out HVB.out
            rw [← e] at h
            have := h a b HAP.out.1 HBP.out.1 HAP.out.2.1 HBP.out.2.1
            simp only [oAt] at this
            rw [HP.out.1, HP.out.2] at this
            omega
          | succ f =>
            refine ⟨f, rfl, ?_⟩
            rw [← tradeU_step f HAP.out HBP.out (by simp only [oAt]; rw [HP.out.1, HP.out.2]; exact hle)]
            exact HTI.out.2
        have HTN := Lib.hid (HTI.out.1.step HAP.out HBP.out (by simp only [oAt]; rw [HP.out.1, HP.out.2]; exact hle))
        clear ho1 ho2 hb1 HTI
        generalize dAt s a = S at *
        generalize dAt t b = T at *
        generalize s.set a (S + 1) = s' at *
        generalize t.set b (T + 1) = t' at *
        go_wp2_with fail
        generalize ((wr.drewN nq).setCell ⟨gA, a, none⟩ (.int .i64 (S + 1))).setCell ⟨gB, b, none⟩ (.int .i64 (T + 1)) = wz at *
        clear hd1 hd2 he1 he2 he3 hp1 hp2
        refine (pickA _ (some ⟨gA, 0, none⟩) n1 c1 n1 asks s' _ HN1.out (own_len oA) (by omega) (HA.out.below hbF) oA.rd).mono ?_
        rintro e w' ⟨rfl, q3, rfl⟩
        go_wp2_with fail
        refine (pickB _ (some ⟨gB, 0, none⟩) n2 c2 n2 bids t' _ HN2.out (own_len oB) (by omega) ((HB.out.below hbF).drewN q3) (oB.rd.drewN q3)).mono ?_
        rintro e w' ⟨rfl, q4, rfl⟩
        go_wp2_with fail
        obtain ⟨f, hf, hte⟩ := HNX.out
        go_roundg f
        case measure => omega
        case rel => exact ⟨s', t', rfl, rfl, ⟨HTN.out, hte⟩, oA, oB, drewNB hbF (q3 + q4)⟩
set_option maxHeartbeats 1000000 in
theorem specTr (A B : Option Addr) (n1 n2 c1 c2 : Nat) (asks bids : List Order) (w : World) (hn1 : asks.length = n1) (hn2 : bids.length = n2) (hm1 : n1 ≤ 1048576) (hm2 : n2 ≤ 1048576) (hA : Rd w A (flatOrder asks)) (hB : Rd w B (flatOrder bids)) :
    Calls Tryd.prog 9 #[.slice A n1 c1, .slice B n2 c2] w (RetTT (tradeV asks bids).1 (tradeV asks bids).2 w) := by
  have HA := Lib.hid hA
  have HB := Lib.hid hB
  have HN1 := Lib.hid hn1
  have HN2 := Lib.hid hn2
  cases hva : sideB asks with
  | false =>
    have e : tradeV asks bids = ([], []) := by rw [tradeV, hva]; rfl
    rw [e]
    clear hA hB hn1 hn2 e
    go_enter Tryd.func9, Tryd.ntmps9
    go_wp2_with fail
    refine (specSdV A n1 c1 asks _ HN1.out hm1 HA.out).mono ?_
    rintro e w' ⟨rfl, q1, rfl⟩
    rw [val_side, hva]
    go_wp2_with fail
    go_ret2
    exact ⟨_, _, _, _, rfl, Own.nil, Own.nil, fun a a' h => absurd h (by simp), allocB (allocB (drewNB (Below.refl _ _) q1) _) _⟩
  | true =>
    cases hvb : sideB bids with
    | false =>
      have e : tradeV asks bids = ([], []) := by rw [tradeV, hvb, Bool.and_false]; rfl
      rw [e]
      clear hA hB hn1 hn2 e
      go_enter Tryd.func9, Tryd.ntmps9
      go_wp2_with fail
      refine (specSdV A n1 c1 asks _ HN1.out hm1 HA.out).mono ?_
      rintro e w' ⟨rfl, q1, rfl⟩
      rw [val_side, hva]
      go_wp2_with fail
      refine (specSdV B n2 c2 bids _ HN2.out hm2 (HB.out.drewN q1)).mono ?_
      rintro e w' ⟨rfl, q2, rfl⟩
      rw [val_side, hvb]
      go_wp2_with fail
      go_ret2
      exact ⟨_, _, _, _, rfl, Own.nil, Own.nil, fun a a' h => absurd h (by simp), allocB (allocB (drewNB (Below.refl _ _) (q1 + q2)) _) _⟩
    | true =>
      have e : tradeV asks bids = trade asks bids := by rw [tradeV, hva, hvb]; rfl
      rw [e]
      exact specTr_ok A B n1 n2 c1 c2 asks bids w hn1 hn2 hA hB hva hvb
end Go.Proofs.YtlhfkidgmdojjaaDoor
