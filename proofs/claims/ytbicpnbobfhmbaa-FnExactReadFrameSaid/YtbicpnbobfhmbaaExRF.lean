/- The walk of FnExactReadFrame: it returns true, and writes nothing that was there. -/
import Derived.Test.YtbicpnbobfhmbaaFrmD
import Derived.Test.YtbicpnbobfhmbaaFrmQ
namespace Go.Proofs.Ytbicpnbobfhmbaa.exRF
open Go.RowKit Go.Proofs.Ytbicpnbobfhmbaa

set_option maxHeartbeats 2000000 in
theorem walk (w : World) (A : Option Addr) (n c : Nat) (xs : List Int) (hn : xs.length = n) (hm : n ≤ maxLen) (hA : Rd w A (ints xs)) (_hw : ∀ x ∈ xs, (Lit.int .i64 x).wf = true) :
    Calls Try.prog 5 #[.slice A n c] w fun e w' => e = .returned (.bool true) ∧ Below w.heap.size w w' := by
  unfold maxLen at hm
  have HA := Lib.hid hA; clear hA
  have HN := Lib.hid hn; clear hn
  by_cases hs : n ≤ 1048576
  case neg =>
    go_enter Try.func5, Try.ntmps5
    go_wp2_with fail
    go_ret
    exact ⟨rfl, Below.refl _ _⟩
  have hb : Below w.heap.size w w := Below.refl _ _
  go_enter Try.func5, Try.ntmps5
  go_wp2_with fail
  refine (toIntS_any A n c xs _ HN.out hs (HA.out.below hb)).mono ?_
  rintro e w1 ⟨rfl, ho1, hbn⟩
  replace hb := seqB hb hbn
  clear hbn
  go_wp2_with fail
  refine (specRF _ n n xs _ HN.out hs (Nat.le_refl _) ho1.rd).mono ?_
  rintro e w2 ⟨BW, dW, rfl, hoW, hbn⟩
  replace hb := seqB hb hbn
  replace ho1 := ho1.below hbn
  clear hbn
  clear ho1
  have hVl : (rdB xs).length ≤ 12 := rdB_len xs
  generalize hV : rdB xs = V at *
  have HV := Lib.hid hV; clear hV
  generalize hRA : rdA xs = a at *
  have HRA := Lib.hid hRA; clear hRA
  generalize hRN : rdN xs = N at *
  have HRN := Lib.hid hRN; clear hRN
  have hne2 : ((N : Int) != (N : Int)) = false := by simp
  have hp : Below w2.heap.size w2 w2 := Below.refl _ _
  have HW := Lib.hid hoW.rd
  clear hoW
  go_wp2_with fail
  have hbo : Below w2.heap.size w2 (w2.alloc (.cells #[.int .i64 a, .slice BW V.length dW] 27)) := allocB (Below.refl _ _) _
  have hwb : Hid ((w2.alloc (.cells #[.int .i64 a, .slice BW V.length dW] 27)).heap[w2.heap.size]? = some (.cells #[.int .i64 a, .slice BW V.length dW] 27 (0, 0))) := heap_alloc_new w2 _
  have hz_hwb : w2.heap.size < (w2.alloc (.cells #[.int .i64 a, .slice BW V.length dW] 27)).heap.size := by simp
  replace hb := seqB hb hbo
  replace hp := hp.trans (hbo.mono hp.size)
  clear hbo
  have hgw0 := hb.size; have hgp0 := hp.size; have hgx0 := hz_hwb
  refine (toIntS_any A n c xs _ HN.out hs (HA.out.below hb)).mono ?_
  rintro e w3 ⟨rfl, hox, hbn⟩
  replace hb := seqB hb hbn
  replace hp := hp.trans (hbn.mono hp.size)
  replace hwb := Lib.hid ((hbn.block _ hz_hwb).trans hwb.out)
  replace hz_hwb := Nat.lt_of_lt_of_le hz_hwb hbn.size
  clear hbn
  have hsz : (w2.alloc (.cells #[.int .i64 a, .slice BW V.length dW] 27)).heap.size = w2.heap.size + 1 := by simp
  rw [hsz] at hox hgw0 hgp0 hgx0
  clear hsz
  have hlt0 := hox.lt
  have hgwG := hb.size; have hgpG := hp.size; have hgxG := hz_hwb
  go_wp2_with fail
  refine (implRF _ n n xs _ HN.out hs (Nat.le_refl _) hox.rd).mono ?_
  rintro e w4 ⟨BG, dG, rfl, hoG, hbn⟩
  replace hb := seqB hb hbn
  replace hp := hp.trans (hbn.mono hp.size)
  replace hwb := Lib.hid ((hbn.block _ hz_hwb).trans hwb.out)
  replace hz_hwb := Nat.lt_of_lt_of_le hz_hwb hbn.size
  replace hox := hox.below hbn
  clear hbn
  rw [HV.out] at hoG ⊢
  rw [HRA.out, HRN.out]
  have hltG := hoG.lt
  have hltx := hox.lt
  obtain ⟨p0, p1⟩ := cells2 hwb.out
  go_wp2_with fail
  have hbo : Below w4.heap.size w4 (w4.alloc (.cells #[.int .i64 a, .slice BG V.length dG] 27)) := allocB (Below.refl _ _) _
  have hgb : Hid ((w4.alloc (.cells #[.int .i64 a, .slice BG V.length dG] 27)).heap[w4.heap.size]? = some (.cells #[.int .i64 a, .slice BG V.length dG] 27 (0, 0))) := heap_alloc_new w4 _
  have hz_hgb : w4.heap.size < (w4.alloc (.cells #[.int .i64 a, .slice BG V.length dG] 27)).heap.size := by simp
  replace hb := seqB hb hbo
  replace hp := hp.trans (hbo.mono hp.size)
  replace hwb := Lib.hid ((hbo.block _ hz_hwb).trans hwb.out)
  replace hz_hwb := Nat.lt_of_lt_of_le hz_hwb hbo.size
  replace hox := hox.below hbo
  replace hoG := hoG.below hbo
  clear hbo
  refine (eqFr a _ _ V.length _ _ V _ rfl (by omega) hoG.rd (HW.out.below hp)).mono ?_
  rintro e w5 ⟨rfl, hbn⟩
  replace hb := seqB hb hbn
  replace hp := hp.trans (hbn.mono hp.size)
  replace hwb := Lib.hid ((hbn.block _ hz_hwb).trans hwb.out)
  replace hz_hwb := Nat.lt_of_lt_of_le hz_hwb hbn.size
  replace hox := hox.below hbn
  replace hoG := hoG.below hbn
  replace hgb := Lib.hid ((hbn.block _ hz_hgb).trans hgb.out)
  replace hz_hgb := Nat.lt_of_lt_of_le hz_hgb hbn.size
  clear hbn
  clear p0 p1
  go_wp2_with fail
  refine (toIntS_any A n c xs _ HN.out hs (HA.out.below hb)).mono ?_
  rintro e w6 ⟨rfl, hoy, hbn⟩
  replace hb := seqB hb hbn
  replace hp := hp.trans (hbn.mono hp.size)
  replace hwb := Lib.hid ((hbn.block _ hz_hwb).trans hwb.out)
  replace hz_hwb := Nat.lt_of_lt_of_le hz_hwb hbn.size
  replace hox := hox.below hbn
  replace hoG := hoG.below hbn
  replace hgb := Lib.hid ((hbn.block _ hz_hgb).trans hgb.out)
  replace hz_hgb := Nat.lt_of_lt_of_le hz_hgb hbn.size
  clear hbn
  go_wp2_with fail
  refine (eqIntS_same _ _ n n n xs _ HN.out hs hox.rd hoy.rd).mono ?_
  rintro e w7 ⟨rfl, qw7, rfl⟩
  have hbn := drewB w6 qw7
  generalize w6.drewN qw7 = w7 at *
  replace hb := seqB hb hbn
  replace hp := hp.trans (hbn.mono hp.size)
  replace hwb := Lib.hid ((hbn.block _ hz_hwb).trans hwb.out)
  replace hz_hwb := Nat.lt_of_lt_of_le hz_hwb hbn.size
  replace hox := hox.below hbn
  replace hoG := hoG.below hbn
  replace hgb := Lib.hid ((hbn.block _ hz_hgb).trans hgb.out)
  replace hz_hgb := Nat.lt_of_lt_of_le hz_hgb hbn.size
  replace hoy := hoy.below hbn
  clear hbn
  clear hoy
  go_wp2_with fail
  refine (markIntS_own _ _ n n _ _ _ hs (by omega) (by omega) hox).mono ?_
  rintro e wM ⟨rfl, _, hT⟩
  replace hb := hb.trans (hT.below (hox.ge hgw0))
  replace hp := hp.trans (hT.below (hox.ge hgp0))
  replace hoG := hT.own hoG hlt0
  replace hwb := Lib.hid ((hT.block _ (fun ad h0 ha => by have := hox.ge hgx0 ad h0 ha; omega)).trans hwb.out)
  replace hz_hwb : w2.heap.size < wM.heap.size := by rw [hT.size]; exact hz_hwb
  replace hgb := Lib.hid ((hT.block _ (fun ad h0 ha => by have := hltx ad h0 ha; omega)).trans hgb.out)
  replace hz_hgb : w4.heap.size < wM.heap.size := by rw [hT.size]; exact hz_hgb
  clear hT
  clear hox
  have hk1 : ¬ ((1 : Int) + (n : Int) < 0) := by omega
  obtain ⟨p0, p1⟩ := cells2 hwb.out
  obtain ⟨q0, q1⟩ := cells2 hgb.out
  go_wp2_with fail
  refine (eqFr a _ _ V.length _ _ V _ rfl (by omega) hoG.rd (HW.out.below hp)).mono ?_
  rintro e w8 ⟨rfl, hbn⟩
  replace hb := seqB hb hbn
  replace hp := hp.trans (hbn.mono hp.size)
  replace hwb := Lib.hid ((hbn.block _ hz_hwb).trans hwb.out)
  replace hz_hwb := Nat.lt_of_lt_of_le hz_hwb hbn.size
  replace hoG := hoG.below hbn
  replace hgb := Lib.hid ((hbn.block _ hz_hgb).trans hgb.out)
  replace hz_hgb := Nat.lt_of_lt_of_le hz_hgb hbn.size
  clear hbn
  clear p0 p1 q0 q1
  obtain ⟨q0, q1⟩ := cells2 hgb.out
  go_wp2_with fail
  clear q0 q1
  refine (markFr _ a _ V.length _ _ _ _ (by omega) (by omega) (by omega) hoG).mono ?_
  rintro e wG ⟨rfl, hoM, wm, hbn, hT⟩
  replace hb := seqB hb hbn
  replace hp := hp.trans (hbn.mono hp.size)
  replace hwb := Lib.hid ((hbn.block _ hz_hwb).trans hwb.out)
  replace hz_hwb := Nat.lt_of_lt_of_le hz_hwb hbn.size
  replace hoG := hoG.below hbn
  replace hgb := Lib.hid ((hbn.block _ hz_hgb).trans hgb.out)
  replace hz_hgb := Nat.lt_of_lt_of_le hz_hgb hbn.size
  clear hbn
  replace hb := hb.trans (hT.below (hoG.ge hgwG))
  replace hp := hp.trans (hT.below (hoG.ge hgpG))
  replace hwb := Lib.hid ((hT.block _ (fun ad h0 ha => by have := hoG.ge hgxG ad h0 ha; omega)).trans hwb.out)
  replace hz_hwb : w2.heap.size < wG.heap.size := by rw [hT.size]; exact hz_hwb
  replace hgb := Lib.hid ((hT.block _ (fun ad h0 ha => by have := hltG ad h0 ha; omega)).trans hgb.out)
  replace hz_hgb : w4.heap.size < wG.heap.size := by rw [hT.size]; exact hz_hgb
  clear hT
  clear hoG
  have hk2 : ¬ ((1 : Int) + (V.length : Int) < 0) := by omega
  have hk3 : ((1 : Int) + (V.length : Int) != (1 : Int) + (V.length : Int)) = false := by simp
  obtain ⟨q0, q1⟩ := cells2 hgb.out
  go_wp2_with fail
  refine (heldFr a _ V.length _ _ _ (by omega) (by omega) (by omega) hoM.rd).mono ?_
  rintro e w9 ⟨rfl, hbn⟩
  replace hb := seqB hb hbn
  replace hp := hp.trans (hbn.mono hp.size)
  replace hwb := Lib.hid ((hbn.block _ hz_hwb).trans hwb.out)
  replace hz_hwb := Nat.lt_of_lt_of_le hz_hwb hbn.size
  replace hgb := Lib.hid ((hbn.block _ hz_hgb).trans hgb.out)
  replace hz_hgb := Nat.lt_of_lt_of_le hz_hgb hbn.size
  replace hoM := hoM.below hbn
  clear hbn
  clear q0 q1
  go_wp2_with fail
  refine (toIntS_any A n c xs _ HN.out hs (HA.out.below hb)).mono ?_
  rintro e w10 ⟨rfl, hoz, hbn⟩
  replace hb := seqB hb hbn
  replace hp := hp.trans (hbn.mono hp.size)
  replace hwb := Lib.hid ((hbn.block _ hz_hwb).trans hwb.out)
  replace hz_hwb := Nat.lt_of_lt_of_le hz_hwb hbn.size
  replace hgb := Lib.hid ((hbn.block _ hz_hgb).trans hgb.out)
  replace hz_hgb := Nat.lt_of_lt_of_le hz_hgb hbn.size
  replace hoM := hoM.below hbn
  clear hbn
  go_wp2_with fail
  refine (implRF _ n n xs _ HN.out hs (Nat.le_refl _) hoz.rd).mono ?_
  rintro e w11 ⟨BH, dH, rfl, hoH, hbn⟩
  replace hb := seqB hb hbn
  replace hp := hp.trans (hbn.mono hp.size)
  replace hwb := Lib.hid ((hbn.block _ hz_hwb).trans hwb.out)
  replace hz_hwb := Nat.lt_of_lt_of_le hz_hwb hbn.size
  replace hgb := Lib.hid ((hbn.block _ hz_hgb).trans hgb.out)
  replace hz_hgb := Nat.lt_of_lt_of_le hz_hgb hbn.size
  replace hoM := hoM.below hbn
  replace hoz := hoz.below hbn
  clear hbn
  rw [HV.out] at hoH ⊢
  rw [HRA.out, HRN.out]
  obtain ⟨p0, p1⟩ := cells2 hwb.out
  go_wp2_with fail
  have hbo : Below w11.heap.size w11 (w11.alloc (.cells #[.int .i64 a, .slice BH V.length dH] 27)) := allocB (Below.refl _ _) _
  have hhb : Hid ((w11.alloc (.cells #[.int .i64 a, .slice BH V.length dH] 27)).heap[w11.heap.size]? = some (.cells #[.int .i64 a, .slice BH V.length dH] 27 (0, 0))) := heap_alloc_new w11 _
  have hz_hhb : w11.heap.size < (w11.alloc (.cells #[.int .i64 a, .slice BH V.length dH] 27)).heap.size := by simp
  replace hb := seqB hb hbo
  replace hp := hp.trans (hbo.mono hp.size)
  replace hwb := Lib.hid ((hbo.block _ hz_hwb).trans hwb.out)
  replace hz_hwb := Nat.lt_of_lt_of_le hz_hwb hbo.size
  replace hgb := Lib.hid ((hbo.block _ hz_hgb).trans hgb.out)
  replace hz_hgb := Nat.lt_of_lt_of_le hz_hgb hbo.size
  replace hoM := hoM.below hbo
  replace hoz := hoz.below hbo
  replace hoH := hoH.below hbo
  clear hbo
  refine (eqFr a _ _ V.length _ _ V _ rfl (by omega) hoH.rd (HW.out.below hp)).mono ?_
  rintro e w12 ⟨rfl, hbn⟩
  replace hb := seqB hb hbn
  replace hp := hp.trans (hbn.mono hp.size)
  replace hwb := Lib.hid ((hbn.block _ hz_hwb).trans hwb.out)
  replace hz_hwb := Nat.lt_of_lt_of_le hz_hwb hbn.size
  replace hgb := Lib.hid ((hbn.block _ hz_hgb).trans hgb.out)
  replace hz_hgb := Nat.lt_of_lt_of_le hz_hgb hbn.size
  replace hoM := hoM.below hbn
  replace hoz := hoz.below hbn
  replace hoH := hoH.below hbn
  replace hhb := Lib.hid ((hbn.block _ hz_hhb).trans hhb.out)
  replace hz_hhb := Nat.lt_of_lt_of_le hz_hhb hbn.size
  clear hbn
  clear p0 p1
  obtain ⟨q0, q1⟩ := cells2 hgb.out
  go_wp2_with fail
  refine (heldFr a _ V.length _ _ _ (by omega) (by omega) (by omega) hoM.rd).mono ?_
  rintro e w13 ⟨rfl, hbn⟩
  replace hb := seqB hb hbn
  replace hp := hp.trans (hbn.mono hp.size)
  replace hwb := Lib.hid ((hbn.block _ hz_hwb).trans hwb.out)
  replace hz_hwb := Nat.lt_of_lt_of_le hz_hwb hbn.size
  replace hgb := Lib.hid ((hbn.block _ hz_hgb).trans hgb.out)
  replace hz_hgb := Nat.lt_of_lt_of_le hz_hgb hbn.size
  replace hoM := hoM.below hbn
  replace hoz := hoz.below hbn
  replace hoH := hoH.below hbn
  replace hhb := Lib.hid ((hbn.block _ hz_hhb).trans hhb.out)
  replace hz_hhb := Nat.lt_of_lt_of_le hz_hhb hbn.size
  clear hbn
  clear q0 q1
  go_wp2_with fail
  go_ret
  exact ⟨rfl, hb⟩
end Go.Proofs.Ytbicpnbobfhmbaa.exRF
