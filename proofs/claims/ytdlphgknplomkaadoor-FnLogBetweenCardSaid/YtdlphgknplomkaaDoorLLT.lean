/- The walk of FnLogBetween: it returns true, and writes nothing that was there. -/
import Derived.Test.YtdlphgknplomkaaDoorDrH
import Derived.Test.YtdlphgknplomkaaDoorSmE
namespace Go.Proofs.YtdlphgknplomkaaDoor.lLT
open Go.RowKit Go.Proofs.YtdlphgknplomkaaDoor

theorem bt_small (l : List Entry) (lo hi : Int) : (bt l lo hi).length ≤ 16 := by
  have := bt_valid l lo hi
  exact log_len this

set_option maxRecDepth 100000 in
set_option maxHeartbeats 4000000 in
theorem walk (w : World) (A : Option Addr) (m c : Nat) (hc : m ≤ c) (hm : m ≤ maxLen) (hA : RdB w A m) :
    Calls Tryd.prog 8 #[.slice A m c] w fun e w' => e = .returned (.bool true) ∧ Below w.heap.size w w' := by
  unfold maxLen at hm
  by_cases hs : m ≤ 1048576
  case neg =>
    go_enter Tryd.func8, Tryd.ntmps8
    go_wp2_with fail
    go_ret
    exact ⟨rfl, Below.refl _ _⟩
  have HA := Lib.hid hA; clear hA
  have hb : Below w.heap.size w w := Below.refl _ _
  go_enter Tryd.func8, Tryd.ntmps8
  obtain ⟨i0, hi0, hz0, hz1, hz2⟩ := info_parts info_Entry
  have HI := Lib.hid (And.intro hi0 (And.intro hz0 (And.intro hz1 hz2))); clear hi0 hz0 hz1 hz2
  go_wp2_with fail
  refine (dDrawLogBetween A m c w hc hs HA.out).mono ?_
  rintro e w1 ⟨l, B, d, y, z, rfl, hy, hz, hl, hF, ho, hbn⟩
  replace hb := seqB hb hbn
  clear hbn
  clear HA
  have hld := hF.1
  go_wp2_with fail
  refine (implLTr B l.length d l (y : Int) (z : Int) _ rfl (by omega) ho.rd hld).mono ?_
  rintro e w2 ⟨BX, dX, rfl, hrX, hbn⟩
  replace hb := seqB hb hbn
  replace ho := ho.below hbn
  clear hbn
  have hrdX := rd_of_row hrX
  have hcapX := row_cap hrX
  have HNILX := Lib.hid (row_none hrX)
  clear hrX
  have hlenX := bt_small l (y : Int) (z : Int)
  generalize hXS : bt l (y : Int) (z : Int) = XS at *
  have HXS := Lib.hid hXS; clear hXS
  go_wp2_with fail
  refine (specLT B l.length d l (y : Int) (z : Int) _ rfl (by omega) ho.rd).mono ?_
  rintro e w3 ⟨BS, dS, rfl, hoS, hbn⟩
  replace hb := seqB hb hbn
  replace ho := ho.below hbn
  replace hrdX := hrdX.below hbn
  clear hbn
  rw [HXS.out] at hoS ⊢
  go_wp2_with fail
  refine (sameE BX BS XS.length dX dS XS _ rfl (by omega) hrdX hoS.rd).mono ?_
  rintro e w4 ⟨rfl, qw4, rfl⟩
  have hbn := drewB w3 qw4
  generalize w3.drewN qw4 = w4 at *
  replace hb := seqB hb hbn
  replace ho := ho.below hbn
  replace hrdX := hrdX.below hbn
  clear hbn
  clear hoS
  obtain ⟨hf, hhf⟩ : ∃ hf : Nat, hf = (y + z) / 2 := ⟨_, rfl⟩
  have hdv : ((y : Int) + (z : Int)).tdiv 2 = (hf : Int) := by rw [Int.tdiv_eq_ediv_of_nonneg (by omega), hhf]; omega
  have hdv2 : ((y : Int) + (z : Int)) / 2 = (hf : Int) := by rw [hhf]; omega
  have hfl : hf ≤ 13 := by omega
  have HHF := Lib.hid hhf; clear hhf
  go_wp2_with fail
  refine (implLTr B l.length d l (y : Int) (hf : Int) _ rfl (by omega) ho.rd hld).mono ?_
  rintro e w5 ⟨BA, dA, rfl, hrA, hbn⟩
  replace hb := seqB hb hbn
  replace ho := ho.below hbn
  replace hrdX := hrdX.below hbn
  clear hbn
  have hrdA := rd_of_row hrA
  have HNILA := Lib.hid (row_none hrA)
  clear hrA
  have hlenA := bt_small l (y : Int) (hf : Int)
  generalize hAS : bt l (y : Int) (hf : Int) = AS at *
  have HAS := Lib.hid hAS; clear hAS
  go_wp2_with fail
  refine (implLTr B l.length d l (hf : Int) (z : Int) _ rfl (by omega) ho.rd hld).mono ?_
  rintro e w6 ⟨BB, dB, rfl, hrB, hbn⟩
  replace hb := seqB hb hbn
  replace ho := ho.below hbn
  replace hrdX := hrdX.below hbn
  replace hrdA := hrdA.below hbn
  clear hbn
  have hrdB := rd_of_row hrB
  have HNILB := Lib.hid (row_none hrB)
  clear hrB
  have hlenB := bt_small l (hf : Int) (z : Int)
  generalize hBS' : bt l (hf : Int) (z : Int) = BS' at *
  have HBS' := Lib.hid hBS'; clear hBS'
  have HXV : Hid (logB XS = true) := by rw [Hid, ← HXS.out]; exact bt_valid l _ _
  clear hdv hdv2 ho
  go_wp2_with fail
  refine (implLV BX XS.length dX XS _ rfl (by omega) hrdX hcapX).mono ?_
  rintro e w7 ⟨rfl, hbn⟩
  replace hb := seqB hb hbn
  replace hrdX := hrdX.below hbn
  replace hrdA := hrdA.below hbn
  replace hrdB := hrdB.below hbn
  clear hbn
  rw [HXV.out]
  by_cases hyz : z < y
  · have hyz' : decide ((z : Int) < (y : Int)) = true := by simp; omega
    have hyz2 : decide (z < y) = true := by simp; omega
    go_wp2_with fail
    refine (aliveC _).mono ?_
    rintro e w8 ⟨rfl, hbn⟩
    replace hb := seqB hb hbn
    clear hbn
    go_wp2_with fail
    go_ret
    exact ⟨ret_bool (by simp), hb⟩
  · have hyz' : decide ((z : Int) < (y : Int)) = false := by simp; omega
    have hyz2 : decide (z < y) = false := by simp; omega
    have HSP : Hid (AS ++ BS' = XS) := by rw [Hid, ← HAS.out, ← HBS'.out, ← HXS.out]; exact bt_split l (by have := HHF.out; omega) (by have := HHF.out; omega)
    have hlit : (w7.alloc (.cells #[] 25)).ownsRow w7.heap.size 25 4 (.slice (some ⟨w7.heap.size, 0, none⟩) 0 0) 0 [] := World.ownsRow_lit w7 #[] 0 (Nat.le_refl _) (Nat.zero_le _) rfl
    have hbl : Below w7.heap.size w7 (w7.alloc (.cells #[] 25)) := allocB (Below.refl _ _) _
    have hra := hrdA.below hbl
    go_wp2_with (first | (at_builtin; refine wpList_appN _ rfl _ _ _ rfl w7.heap.size 25 i0 _ 4 32 Tryd.underlying23 HI.out rfl (by omega) (.slice B5 AS.length d5) AS.length _ rfl hr5 BB BS'.length dB (flatEntry BS') rfl (flatE_len _ _ rfl) hrb HNILB.out (flatE_one _) (by omega) (by omega) hs1 ?_; intro v2 wv2 hown2 hg2) | (at_builtin; refine wpList_appN _ rfl _ _ _ rfl w7.heap.size 25 i0 _ 4 32 Tryd.underlying23 HI.out rfl (by omega) _ 0 _ rfl hlit BA AS.length dA (flatEntry AS) rfl (flatE_len _ _ rfl) hra HNILA.out (flatE_one _) (by omega) (by omega) hbl.size ?_; intro v1 wv1 hown1 hg1; have hb1 := grown_row hbl rfl hlit hg1; have hrb := hrdB.below hb1; have hs1 := hb1.size; obtain ⟨B5, d5, rfl, hr5⟩ := row_is (n' := AS.length) (cs' := flatEntry AS) hown1 (by omega) rfl; clear hlit hra hg1 hown1))
    have hbn := grown_row hb1 rfl hr5 hg2
    have hrx := hrdX.below hbn
    obtain ⟨B6, d6, rfl, hr6⟩ := row_is (n' := XS.length) (cs' := flatEntry XS) hown2 (by rw [← HSP.out]; simp) (by rw [flatE_app, HSP.out])
    replace hb := seqB hb hbn
    clear hown2 hg2 hbn hr5 hrb
    refine (sameE B6 BX XS.length d6 dX XS _ rfl (by omega) (rd_of_row hr6) hrx).mono ?_
    rintro e w20 ⟨rfl, q20, rfl⟩
    replace hb := drewNB hb q20
    generalize wv2.drewN q20 = w20 at *
    clear hr6 hrx
    go_wp2_with fail
    refine (aliveC _).mono ?_
    rintro e w8 ⟨rfl, hbn⟩
    replace hb := seqB hb hbn
    clear hbn
    go_wp2_with fail
    go_ret
    exact ⟨ret_bool (by simp), hb⟩
end Go.Proofs.YtdlphgknplomkaaDoor.lLT
