/- The walk of FnLogGaps: it returns true, and writes nothing that was there. -/
import Derived.Test.YtdlphgknplomkaaDoorDrP
import Derived.Test.YtdlphgknplomkaaDoorLogM
import Derived.Test.YtdlphgknplomkaaDoorLogW
import Derived.Test.YtdlphgknplomkaaDoorSmG
namespace Go.Proofs.YtdlphgknplomkaaDoor.lLG
open Go.RowKit Go.Proofs.YtdlphgknplomkaaDoor

def RetV (V : List Entry) (ok : Bool) (w : World) (en : Ending) (w' : World) : Prop :=
  ∃ B d, en = .returned (.tuple #[.slice B V.length d, .bool ok]) ∧ w'.ownsRow w.heap.size 25 4 (.slice B V.length d) V.length (flatEntry V) ∧ Below w.heap.size w w'
theorem implLPv (V : List Entry) (ok : Bool) (A : Option Addr) (n c : Nat) (l : List Entry) (t u v x : Int) (w : World) (h : putV l ⟨t, u, v, x⟩ = (V, ok)) (hn : l.length = n) (hm : n ≤ 1048576) (hF : Fm A n c) (hA : Rd w A (flatEntry l)) :
    Calls Tryd.prog 10 #[.slice A n c, .agg #[.int .i64 t, .int .i64 u, .int .i64 v, .int .i64 x]] w (RetV V ok w) := by
  refine (implLP A n c l t u v x w hn hm hF.1 hF.2 hA).mono fun e w' hr => ?_
  unfold RetLP at hr; rw [h] at hr; exact hr
def RetG (G : List Int) (n : Nat) (w : World) (e : Ending) (w' : World) : Prop :=
  ∃ B c, e = .returned (.slice B n c) ∧ Own w' w.heap.size 3 1 B n (ints G) ∧ Below w.heap.size w w'
theorem implLGv (G : List Int) (K : Nat) (A : Option Addr) (n c : Nat) (l : List Entry) (who : Int) (w : World) (h : gaps l who = G) (hK : G.length = K) (hn : l.length = n) (hm : n ≤ 1048576) (hA : Rd w A (flatEntry l)) (hcap : n ≤ c) :
    Calls Tryd.prog 17 #[.slice A n c, .int .i64 who] w (RetG G K w) := by
  subst h; subst hK; exact implLG A n c l who w hn hm hA hcap
theorem specLGv (G : List Int) (K : Nat) (A : Option Addr) (n c : Nat) (l : List Entry) (who : Int) (w : World) (h : gaps l who = G) (hK : G.length = K) (hn : l.length = n) (hm : n ≤ 1048576) (hA : Rd w A (flatEntry l)) :
    Calls Tryd.prog 19 #[.slice A n c, .int .i64 who] w (RetG G K w) := by
  subst h; subst hK; exact specLG A n c l who w hn hm hA

set_option maxRecDepth 100000 in
set_option maxHeartbeats 4000000 in
theorem walk (w : World) (A : Option Addr) (m c : Nat) (hc : m ≤ c) (hm : m ≤ maxLen) (hA : RdB w A m) :
    Calls Tryd.prog 4 #[.slice A m c] w fun e w' => e = .returned (.bool true) ∧ Below w.heap.size w w' := by
  unfold maxLen at hm
  by_cases hs : m ≤ 1048576
  case neg =>
    go_enter Tryd.func4, Tryd.ntmps4
    go_wp2_with fail
    go_ret
    exact ⟨rfl, Below.refl _ _⟩
  have HA := Lib.hid hA; clear hA
  have hb : Below w.heap.size w w := Below.refl _ _
  go_enter Tryd.func4, Tryd.ntmps4
  go_wp2_with fail
  refine (dDrawLogGaps A m c w hc hs HA.out).mono ?_
  rintro e w1 ⟨l, B, d, y, rfl, hy, hl, hF, ho, hbn⟩
  replace hb := seqB hb hbn
  clear hbn
  clear HA
  have hld := hF.1
  obtain ⟨G, hG⟩ : ∃ G, gaps l (y : Int) = G := ⟨_, rfl⟩
  obtain ⟨K, hK⟩ : ∃ K, G.length = K := ⟨_, rfl⟩
  have hKm : K ≤ 1048576 := by rw [← hK, ← hG]; exact gaps_le l _
  have hK0 : 0 < K → logB l = true := by intro h; rw [← hK, ← hG] at h; exact gaps_pos h
  have hasc : G.Pairwise (· < ·) := by rw [← hG]; exact gaps_asc l _
  have HG := Lib.hid hG; have HK := Lib.hid hK; have HK0 := Lib.hid hK0; have HASC := Lib.hid hasc
  clear hG hK hK0 hasc
  go_wp2_with fail
  refine (implLGv G K B l.length d l y _ HG.out HK.out rfl (by omega) ho.rd hld).mono ?_
  rintro e w2 ⟨BG, dG, rfl, hoG, hbn⟩
  replace hb := seqB hb hbn
  replace ho := ho.below hbn
  clear hbn
  go_wp2_with fail
  refine (specLGv G K B l.length d l y _ HG.out HK.out rfl (by omega) ho.rd).mono ?_
  rintro e w3 ⟨BS, dS, rfl, hoS, hbn⟩
  replace hb := seqB hb hbn
  replace ho := ho.below hbn
  replace hoG := hoG.below hbn
  clear hbn
  have hne : ((K : Int) != (K : Int)) = false := by simp
  go_wp2_with fail
  refine (sameInts_same BG BS K dG dS G _ HK.out hKm hoG.rd hoS.rd).mono ?_
  rintro e w4 ⟨rfl, qw4, rfl⟩
  have hbn := drewB w3 qw4
  generalize w3.drewN qw4 = w4 at *
  replace hb := seqB hb hbn
  replace ho := ho.below hbn
  replace hoG := hoG.below hbn
  replace hoS := hoS.below hbn
  clear hbn
  clear hoS hne
  have hlw : w.heap.size ≤ w4.heap.size := hb.size
  go_wp2_with fail
  have HRG := Lib.hid hoG.rd; have HRL := Lib.hid ho.rd; have HBW := Lib.hid hb
  clear hoG ho hb
  generalize w4 = W0 at *
  go_loopw [6] (fun i wr => ∃ k : Nat, k ≤ K ∧ i = .int .i64 k ∧ Hid (Rd wr BG (ints G)) ∧ Hid (Rd wr B (flatEntry l)) ∧ Hid (Below w.heap.size w wr)) (fun i _ => K - (intOf i).toNat)
  case atStart => exact ⟨0, by omega, rfl, HRG, HRL, HBW⟩
  case round =>
    clear HRG HRL HBW
    obtain ⟨k, hk, rfl, HRG, HRL, HBW⟩ := hrel
    by_cases hlt : k < K ∧ l.length < 16
    · skip
      obtain ⟨hlt, hl16⟩ := hlt
      obtain ⟨b, o, rfl, hbl, hc0⟩ := HRG.out.int (k := k) (by rw [HK.out]; exact hlt)
      have hkG : k < G.length := by rw [HK.out]; exact hlt
      have hmem : G.getD k 0 ∈ gaps l (y : Int) := by rw [HG.out, List.getD_eq_getElem?_getD, List.getElem?_eq_getElem hkG]; exact List.getElem_mem hkG
      clear hkG
      have hLB := HK0.out (by omega)
      obtain ⟨hput, hgap⟩ := gap_put hLB hl16 hmem
      obtain ⟨hany, hlen⟩ := gap_gone hmem
      rw [HG.out] at hgap hany hlen
      rw [HK.out] at hlen
      obtain ⟨g, hgk⟩ : ∃ g, G.getD k 0 = g := ⟨_, rfl⟩
      rw [hgk] at hc0 hput hgap hany hlen
      have HGK := Lib.hid hgk; clear hgk
      generalize hV : insE l ⟨5, (y : Int), g, 1⟩ = V at *
      have hVb : V.length ≤ 17 := by rw [← hV, insE_length]; omega
      generalize G.erase g = G2 at *
      obtain ⟨K2, hK2⟩ : ∃ K2, K2 = K - 1 := ⟨_, rfl⟩
      rw [← hK2] at hlen
      have hnq : ((K2 : Int) != (K : Int) - 1) = false := by simp; omega
      have hwr : IntKind.i64.wrap ((K : Int) - 1) = (K : Int) - 1 := IntWalk.i64_in _ (by omega)
      have hK2m : K2 ≤ 1048576 := by omega
      clear hK2
      have HPUT := Lib.hid hput; have HGAP := Lib.hid hgap; have HANY := Lib.hid hany; have HLEN := Lib.hid hlen; clear hput hgap hany hlen hmem hLB hV
      have hki : (k : Int) < (K : Int) := by omega
      have hli : (l.length : Int) < 16 := by omega
      have hk0 : (0 : Int) ≤ (k : Int) := by omega
      go_wp2_with fail
      have hrl := HRL.out; have hrg := HRG.out; have hb := HBW.out; clear HRL HRG HBW
      refine (implLPv V true B l.length d l 5 y g 1 _ HPUT.out rfl (by omega) hF hrl).mono ?_
      rintro e w5 ⟨BX, dX, rfl, hrX, hbn⟩
      replace hb := seqB hb hbn
      replace hrl := hrl.below hbn
      replace hrg := hrg.below hbn
      clear hbn
      skip
      have hcX := row_cap hrX
      have HX := Lib.hid (rd_of_row hrX)
      clear hrX hc0 hbl
      obtain ⟨b1, o1, e1, hbl, hc0⟩ := hrg.int (k := k) (by rw [HK.out]; exact hlt)
      cases e1
      rw [HGK.out] at hc0
      have hbd := drew1B hb
      have HXd : Hid (Rd w5.drew BX (flatEntry V)) := HX
      have hrgd : Hid (Rd w5.drew _ _) := Lib.hid hrg
      have hrld : Hid (Rd w5.drew _ _) := Lib.hid hrl
      clear HX hrg hrl hb hbl
      go_wp2_with fail
      go_region_held3 (fun W' => W'.cell? ⟨b, o + k, none⟩ = some (.int .i64 g)) (first | go_keep | exact keepC (by assumption) hbC | exact keepC (by assumption) hbA) (first | (go_at_call 17; refine (implLGv G2 K2 BX V.length dX V y _ HGAP.out HLEN.out rfl (by omega) (HXd.out.below hbA) hcX).mono ?_; rintro e wC ⟨BC, dC, rfl, hoC, hbC⟩) | (go_at_call 20; refine (hasIntC BA K2 dA G2 g false _ HLEN.out (by omega) HANY.out hoA.rd).mono ?_; rintro e we ⟨rfl, rfl⟩) | (go_at_call 17; refine (implLGv G2 K2 BX V.length dX V y _ HGAP.out HLEN.out rfl (by omega) HXd.out hcX).mono ?_; rintro e wA ⟨BA, dA, rfl, hoA, hbA⟩))
      all_goals
        go_wp2_with fail
        go_roundw
        case rel => exact ⟨k + 1, by omega, by go_num, Lib.hid ((hrgd.out.below hbA).below hbC), Lib.hid ((hrld.out.below hbA).below hbC), Lib.hid (seqB (seqB hbd hbA) hbC)⟩
        case measure => simp [intOf]; omega
    · skip
      have hlast : (decide ((k : Int) < (K : Int)) = true → decide ((l.length : Int) < 16) = false) := by intro h; simp at h; simp; omega
      by_cases hki : (k : Int) < (K : Int)
      · skip
        have hli : ¬ ((l.length : Int) < 16) := by omega
        clear hlast hlt
        go_wp2_with fail
        refine (ascendC BG K dG G _ HK.out hKm HASC.out HRG.out).mono ?_
        rintro e w8 ⟨rfl, q, rfl⟩
        have hb := drewNB HBW.out q
        go_wp2_with fail
        refine (aliveC _).mono ?_
        rintro e w9 ⟨rfl, hbn⟩
        replace hb := seqB hb hbn
        go_wp2_with fail
        go_ret
        exact ⟨ret_bool (by simp), hb⟩
      · skip
        clear hlast hlt
        go_wp2_with fail
        refine (ascendC BG K dG G _ HK.out hKm HASC.out HRG.out).mono ?_
        rintro e w8 ⟨rfl, q, rfl⟩
        have hb := drewNB HBW.out q
        go_wp2_with fail
        refine (aliveC _).mono ?_
        rintro e w9 ⟨rfl, hbn⟩
        replace hb := seqB hb hbn
        go_wp2_with fail
        go_ret
        exact ⟨ret_bool (by simp), hb⟩
end Go.Proofs.YtdlphgknplomkaaDoor.lLG
