/- The contract of the reference's LogMerge. No statement is proved here. -/
import Derived.Test.YtdlphgknplomkaaDoorMrgE
namespace Go.Proofs.YtdlphgknplomkaaDoor
open Go.RowKit

theorem mergeN_drop {out b : List Entry} {k : Nat} (hk : k < b.length) : mergeN out (b.drop k) = if (putV out (eAt b k)).2 then mergeN (putV out (eAt b k)).1 (b.drop (k + 1)) else none := by
  rw [List.drop_eq_getElem_cons hk, mergeN, eAt_get hk]
theorem putV_len16 {l : List Entry} {e : Entry} (h : l.length ≤ 16) : (putV l e).1.length ≤ 16 := by
  unfold putV
  split
  · split
    · exact h
    · split
      · next hh => exact log_len hh
      · exact h
  · simp
theorem specLVe (l : List Entry) (r : Bool) (A : Option Addr) (n c : Nat) (w : World) (h : logB l = r) (hn : l.length = n) (hm : n ≤ 1048576) (hA : Rd w A (flatEntry l)) :
    Calls Tryd.prog 29 #[.slice A n c] w fun e w' => e = .returned (.bool r) ∧ Below w.heap.size w w' := by
  subst h; exact specLV A n c l w hn hm hA
set_option maxRecDepth 100000 in
set_option maxHeartbeats 2000000 in
theorem specLM (A : Option Addr) (n c : Nat) (a : List Entry) (B : Option Addr) (m d : Nat) (b : List Entry) (w : World) (hn : a.length = n) (hm : n ≤ 1048576) (hF : FmM A n c) (hA : Rd w A (flatEntry a)) (hn2 : b.length = m) (hm2 : m ≤ 1048576) (hB : Rd w B (flatEntry b)) :
    Calls Tryd.prog 24 #[.slice A n c, .slice B m d] w (RetLM a b w) := by
  have HF1 : Hid (A = none → n = 0 ∧ c = 0) := fun e => fm_nilM hF e
  have HA := Lib.hid hA; have HB := Lib.hid hB; have HN := Lib.hid hn; have HM := Lib.hid hn2
  have hb : Below w.heap.size w w := Below.refl _ _
  obtain ⟨i0, hi0, hz0, hz1, hz2⟩ := info_parts info_Entry
  have HI := Lib.hid (And.intro hi0 (And.intro hz0 (And.intro hz1 hz2))); clear hi0 hz0 hz1 hz2
  clear hA hB hn hn2 hF
  unfold RetLM
  cases ha : logB a with
  | false =>
    have HV : Hid (mergeV a b = ([], false)) := merge_no (fun h => by rw [ha] at h; cases h.1)
    rw [HV.out]
    go_enter Tryd.func24, Tryd.ntmps24
    go_wp2_with fail
    refine (specLVe a false A n c _ ha HN.out hm HA.out).mono ?_
    rintro e w1 ⟨rfl, hbn⟩
    replace hb := seqB hb hbn
    clear hbn
    have hlit : (w1.alloc (.cells #[] 25)).ownsRow w.heap.size 25 4 (.slice (some ⟨w1.heap.size, 0, none⟩) 0 0) 0 [] := World.ownsRow_lit w1 #[] 0 hb.size (Nat.zero_le _) rfl
    have HL := Lib.hid hlit; clear hlit
    go_wp2_with fail
    exact bodyPost_ret (v := .tuple #[.slice (some ⟨w1.heap.size, 0, none⟩) 0 0, .bool false]) (by simp [results, Tryd.results24, go_sem]) rfl ⟨_, 0, rfl, HL.out, allocB hb _⟩
  | true =>
    cases hlb : logB b with
    | false =>
      have HV : Hid (mergeV a b = ([], false)) := merge_no (fun h => by rw [hlb] at h; cases h.2)
      rw [HV.out]
      go_enter Tryd.func24, Tryd.ntmps24
      go_wp2_with fail
      refine (specLVe a true A n c _ ha HN.out hm HA.out).mono ?_
      rintro e w1 ⟨rfl, hbn⟩
      replace hb := seqB hb hbn
      have hrb := HB.out.below hbn
      clear hbn
      go_wp2_with fail
      refine (specLVe b false B m d _ hlb HM.out hm2 hrb).mono ?_
      rintro e w2 ⟨rfl, hbn⟩
      replace hb := seqB hb hbn
      clear hbn
      have hlit : (w2.alloc (.cells #[] 25)).ownsRow w.heap.size 25 4 (.slice (some ⟨w2.heap.size, 0, none⟩) 0 0) 0 [] := World.ownsRow_lit w2 #[] 0 hb.size (Nat.zero_le _) rfl
      have HL := Lib.hid hlit; clear hlit
      go_wp2_with fail
      exact bodyPost_ret (v := .tuple #[.slice (some ⟨w2.heap.size, 0, none⟩) 0 0, .bool false]) (by simp [results, Tryd.results24, go_sem]) rfl ⟨_, 0, rfl, HL.out, allocB hb _⟩
    | true =>
      have hn16 : n ≤ 16 := by have := log_len ha; rw [HN.out] at this; exact this
      have hm16 : m ≤ 16 := by have := log_len hlb; rw [HM.out] at this; exact this
      have HV : Hid (mergeV a b = (match mergeN a b with | some r => (r, true) | none => ([], false))) := by rw [Hid, mergeV, ha, hlb]; rfl
      have HLA := Lib.hid ha; have HLB := Lib.hid hlb; clear ha hlb
      go_enter Tryd.func24, Tryd.ntmps24
      go_wp2_with fail
      refine (specLVe a true A n c _ HLA.out HN.out hm HA.out).mono ?_
      rintro e w1 ⟨rfl, hbn⟩
      replace hb := seqB hb hbn
      have hra := HA.out.below hbn
      have hrb := HB.out.below hbn
      clear hbn
      go_wp2_with fail
      refine (specLVe b true B m d _ HLB.out HM.out hm2 hrb).mono ?_
      rintro e w2 ⟨rfl, hbn⟩
      replace hb := seqB hb hbn
      replace hra := hra.below hbn
      replace hrb := hrb.below hbn
      clear hbn
      have hlit : (w2.alloc (.cells #[] 25)).ownsRow w.heap.size 25 4 (.slice (some ⟨w2.heap.size, 0, none⟩) 0 0) 0 [] := World.ownsRow_lit w2 #[] 0 hb.size (Nat.zero_le _) rfl
      replace hra := hra.below (allocB (Below.refl _ _) (.cells #[] 25))
      replace hb := allocB hb (.cells #[] 25)
      replace hrb := hrb.below (allocB (Below.refl _ _) (.cells #[] 25))
      have hfl := flatE_len a n HN.out
      go_wp2_with (at_builtin; refine wpList_appN _ rfl _ _ _ rfl w.heap.size 25 i0 _ 4 32 Tryd.underlying23 HI.out rfl (by omega) _ 0 _ rfl hlit A n c (flatEntry a) rfl hfl hra HF1.out (flatE_one a) (by omega) (by omega) hb.size ?_; intro v' w3 hown3 hg3)
      have hb3 := grown_row hb rfl hlit hg3
      have hbn3 : Below (w2.alloc (.cells #[] 25)).heap.size (w2.alloc (.cells #[] 25)) w3 ∨ True := .inr trivial
      have hrb3 : Rd w3 B (flatEntry b) := HB.out.below hb3
      obtain ⟨B3, d3, rfl, hr3⟩ := row_is (n' := a.length) (cs' := flatEntry a) hown3 (by rw [HN.out, Nat.zero_add]) (by simp)
      clear hlit hra hrb hown3 hg3 hbn3 hfl hb
      have HR3 := Lib.hid hr3; have HB3 := Lib.hid hb3; clear hr3 hb3 hrb3
      go_wp2_with fail
      go_loopw [6, 7] (fun v i wr => ∃ (k : Nat) (acc : List Entry), k ≤ m ∧ i = .int .i64 k ∧ acc.length ≤ 16 ∧ Hid (mergeN acc (b.drop k) = mergeN a b) ∧ (∃ B1 c1, v = .slice B1 acc.length c1 ∧ Hid (wr.ownsRow w.heap.size 25 4 (.slice B1 acc.length c1) acc.length (flatEntry acc))) ∧ Hid (Below w.heap.size w wr)) (fun _ i _ => m - (intOf i).toNat)
      case atStart => exact ⟨0, a, by omega, rfl, by rw [HN.out]; exact hn16, rfl, ⟨_, _, rfl, HR3.out⟩, HB3⟩
      case round =>
        clear HR3 HB3
        obtain ⟨k, acc, hk, rfl, hacc, HM1, ⟨B1, c1, rfl, HR⟩, HBW⟩ := hrel
        by_cases hlt : k < m
        · have hrb := HB.out.below HBW.out
          obtain ⟨bb, o, rfl, hbl, hc0, hc1, hc2, hc3⟩ := hrb.atEntry (k := k) (by rw [HM.out]; exact hlt)
          have HD := Lib.hid (mergeN_drop (out := acc) (b := b) (k := k) (by rw [HM.out]; exact hlt))
          have HGK : Hid (eAt b k = b.getD k Entry.zero) := rfl
          generalize b.getD k Entry.zero = r at *
          obtain ⟨t, u, v, x⟩ := r
          dsimp only at hc0 hc1 hc2 hc3
          have hki : (k : Int) < (m : Int) := by omega
          have hk0 : (0 : Int) ≤ (k : Int) := by omega
          rw [Hid, HGK.out, HM1.out] at HD
          have HD2 := Lib.hid HD; clear HD hrb
          go_wp2_with fail
          refine (specLP B1 acc.length c1 acc t u v x _ rfl (by omega) (row_cap HR.out) (row_fmM HR.out).2 (rd_of_row HR.out)).mono ?_
          rintro e w4 ⟨B2, d2, rfl, hr2, hbn⟩
          have hzz := HBW.out.size
          have HR2 := Lib.hid (row_mono hr2 hzz)
          have HB4 := Lib.hid (seqB HBW.out hbn)
          have hl2 := putV_len16 (e := ⟨t, u, v, x⟩) hacc
          clear hr2 hbn hzz hc0 hc1 hc2 hc3 HR HBW
          generalize putV acc ⟨t, u, v, x⟩ = P at *
          obtain ⟨acc2, ok⟩ := P
          dsimp only at hl2 HR2 HD2 ⊢
          cases ok with
          | true =>
            go_wp2_with fail
            go_roundw
            case rel => exact ⟨k + 1, acc2, by omega, by go_num, hl2, HD2.out.symm, ⟨_, _, rfl, HR2⟩, HB4⟩
            case measure => simp [intOf]; omega
          | false =>
            have hlit : (w4.alloc (.cells #[] 25)).ownsRow w.heap.size 25 4 (.slice (some ⟨w4.heap.size, 0, none⟩) 0 0) 0 [] := World.ownsRow_lit w4 #[] 0 HB4.out.size (Nat.zero_le _) rfl
            have HL := Lib.hid hlit; clear hlit
            have HNN : Hid (mergeV a b = ([], false)) := by rw [Hid, HV.out, HD2.out]; rfl
            go_wp2_with fail
            exact bodyPost_ret (v := .tuple #[.slice (some ⟨w4.heap.size, 0, none⟩) 0 0, .bool false]) (by simp [results, Tryd.results24, go_sem]) rfl (by rw [HNN.out]; exact ⟨_, 0, rfl, HL.out, allocB HB4.out _⟩)
        · have hki : ¬ (k : Int) < (m : Int) := by omega
          have HNN : Hid (mergeV a b = (acc, true)) := by
            have h := HM1.out
            rw [List.drop_eq_nil_of_le (by rw [HM.out]; omega), mergeN] at h
            rw [Hid, HV.out, ← h]
          go_wp2_with fail
          exact bodyPost_ret (v := .tuple #[.slice B1 acc.length c1, .bool true]) (by simp [results, Tryd.results24, go_sem]) rfl (by rw [HNN.out]; exact ⟨_, _, rfl, HR.out, HBW.out⟩)
end Go.Proofs.YtdlphgknplomkaaDoor
