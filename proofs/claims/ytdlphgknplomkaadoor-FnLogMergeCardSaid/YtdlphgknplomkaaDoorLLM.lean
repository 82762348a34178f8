/- The walk of FnLogMerge: it returns true, and writes nothing that was there. -/
import Derived.Test.YtdlphgknplomkaaDoorDrQ
import Derived.Test.YtdlphgknplomkaaDoorMrgS
import Derived.Test.YtdlphgknplomkaaDoorSmE
namespace Go.Proofs.YtdlphgknplomkaaDoor.lLM
open Go.RowKit Go.Proofs.YtdlphgknplomkaaDoor

def RetV (V : List Entry) (ok : Bool) (w : World) (en : Ending) (w' : World) : Prop :=
  ∃ B d, en = .returned (.tuple #[.slice B V.length d, .bool ok]) ∧ w'.ownsRow w.heap.size 25 4 (.slice B V.length d) V.length (flatEntry V) ∧ Below w.heap.size w w'
theorem implLMv (V : List Entry) (ok : Bool) (A : Option Addr) (n c : Nat) (a : List Entry) (B : Option Addr) (m d : Nat) (b : List Entry) (w : World) (h : mergeV a b = (V, ok)) (hn : a.length = n) (hm : n ≤ 1048576) (hF : Fm A n c) (hA : Rd w A (flatEntry a)) (hn2 : b.length = m) (hm2 : m ≤ 1048576) (hF2 : Fm B m d) (hB : Rd w B (flatEntry b)) :
    Calls Tryd.prog 23 #[.slice A n c, .slice B m d] w (RetV V ok w) := by
  refine (implLM A n c a B m d b w hn hm hF hA hn2 hm2 hF2 hB).mono fun e w' hr => ?_
  unfold RetLM at hr; rw [h] at hr; exact hr
theorem specLMv (V : List Entry) (ok : Bool) (A : Option Addr) (n c : Nat) (a : List Entry) (B : Option Addr) (m d : Nat) (b : List Entry) (w : World) (h : mergeV a b = (V, ok)) (hn : a.length = n) (hm : n ≤ 1048576) (hF : Fm A n c) (hA : Rd w A (flatEntry a)) (hn2 : b.length = m) (hm2 : m ≤ 1048576) (hB : Rd w B (flatEntry b)) :
    Calls Tryd.prog 24 #[.slice A n c, .slice B m d] w (RetV V ok w) := by
  refine (specLM A n c a B m d b w hn hm hF hA hn2 hm2 hB).mono fun e w' hr => ?_
  unfold RetLM at hr; rw [h] at hr; exact hr
/-- what the law says of two logs -/
theorem merge_law (a b : List Entry) : (∃ V, mergeV a b = (V, true) ∧ mergeV b a = (V, true) ∧ V.length ≤ 16 ∧ logB V = true ∧ mergeV V a = (V, true) ∧ mergeV b V = (V, true) ∧ mergeV V V = (V, true) ∧ ∀ x ∈ V, a.any (eqE x) = true ∨ b.any (eqE x) = true) ∨ (mergeV a b = ([], false) ∧ mergeV b a = ([], false)) := by
  by_cases hv : logB a = true ∧ logB b = true
  · obtain ⟨ha, hb⟩ := hv
    rcases merge_uni ha hb with ⟨V, e, hu⟩ | ⟨e, hn⟩
    · refine .inl ⟨V, e, merge_of hb ha hu.comm, log_len hu.1, hu.1, merge_of hu.1 ha ⟨hu.1, fun x => ?_⟩, merge_of hb hu.1 ⟨hu.1, fun x => ?_⟩, merge_of hu.1 hu.1 ⟨hu.1, fun x => ?_⟩, fun x hx => ?_⟩
      · rw [hu.2]; constructor
        · exact fun h => .inl h
        · rintro (h | h)
          · exact h
          · exact .inl h
      · rw [hu.2]; constructor
        · exact fun h => .inr h
        · rintro (h | h)
          · exact .inr h
          · exact h
      · simp
      · rcases (hu.2 x).1 hx with h | h
        · exact .inl ((any_eqE a x).2 h)
        · exact .inr ((any_eqE b x).2 h)
    · right
      refine ⟨e, ?_⟩
      rcases merge_uni hb ha with ⟨V, e2, hu⟩ | ⟨e2, _⟩
      · exact absurd hu.comm (hn V)
      · exact e2
  · exact .inr ⟨merge_no hv, merge_no (fun h => hv ⟨h.2, h.1⟩)⟩
theorem mem_at {l : List Entry} {k : Nat} (hk : k < l.length) : l.getD k Entry.zero ∈ l := by
  have h := eAt_get hk
  show eAt l k ∈ l
  rw [h]; exact List.getElem_mem hk

set_option maxRecDepth 100000 in
set_option maxHeartbeats 4000000 in
theorem walk (w : World) (A : Option Addr) (m c : Nat) (hc : m ≤ c) (hm : m ≤ maxLen) (hA : RdB w A m) :
    Calls Tryd.prog 5 #[.slice A m c] w fun e w' => e = .returned (.bool true) ∧ Below w.heap.size w w' := by
  unfold maxLen at hm
  by_cases hs : m ≤ 1048576
  case neg =>
    go_enter Tryd.func5, Tryd.ntmps5
    go_wp2_with fail
    go_ret
    exact ⟨rfl, Below.refl _ _⟩
  have HA := Lib.hid hA; clear hA
  have hb : Below w.heap.size w w := Below.refl _ _
  go_enter Tryd.func5, Tryd.ntmps5
  go_wp2_with fail
  refine (dDrawLogMerge A m c w hc hs HA.out).mono ?_
  rintro e w1 ⟨la, lb, A1, B1, c1, d1, rfl, hla, hlb, hFa, hFb, hoa, hob, hbn⟩
  replace hb := seqB hb hbn
  clear hbn
  clear HA
  have hra := hoa.rd; have hrb := hob.rd
  clear hoa hob
  rcases merge_law la lb with ⟨V, h1, h2, hVl, h3, h4, h5, h6, h7⟩ | ⟨h1, h2⟩
  · skip
    have H1 := Lib.hid h1; have H2 := Lib.hid h2; have H3 := Lib.hid h3; have H4 := Lib.hid h4; have H5 := Lib.hid h5; have H6 := Lib.hid h6; have H7 := Lib.hid h7
    clear h1 h2 h3 h4 h5 h6 h7
    have hne : (true != true) = false := rfl
    go_wp2_with fail
    refine (implLMv V true A1 la.length c1 la B1 lb.length d1 lb _ H1.out rfl (by omega) hFa hra rfl (by omega) hFb hrb).mono ?_
    rintro e w2 ⟨BX, dX, rfl, hrX, hbn⟩
    replace hb := seqB hb hbn
    replace hra := hra.below hbn
    replace hrb := hrb.below hbn
    clear hbn
    have hrdX := rd_of_row hrX
    have HFX := Lib.hid (row_fm hrX)
    clear hrX
    go_wp2_with fail
    refine (specLMv V true A1 la.length c1 la B1 lb.length d1 lb _ H1.out rfl (by omega) hFa hra rfl (by omega) hrb).mono ?_
    rintro e w3 ⟨BS, dS, rfl, hrS, hbn⟩
    replace hb := seqB hb hbn
    replace hra := hra.below hbn
    replace hrb := hrb.below hbn
    replace hrdX := hrdX.below hbn
    clear hbn
    have hrdS := rd_of_row hrS
    have HFS := Lib.hid (row_fm hrS)
    clear hrS
    go_wp2_with fail
    refine (sameE BX BS V.length dX dS V _ rfl (by omega) hrdX hrdS).mono ?_
    rintro e w4 ⟨rfl, qw4, rfl⟩
    have hbn := drewB w3 qw4
    generalize w3.drewN qw4 = w4 at *
    replace hb := seqB hb hbn
    replace hra := hra.below hbn
    replace hrb := hrb.below hbn
    replace hrdX := hrdX.below hbn
    replace hrdS := hrdS.below hbn
    clear hbn
    clear hrdS
    go_wp2_with fail
    refine (implLMv V true B1 lb.length d1 lb A1 la.length c1 la _ H2.out rfl (by omega) hFb hrb rfl (by omega) hFa hra).mono ?_
    rintro e w5 ⟨BZ, dZ, rfl, hrZ, hbn⟩
    replace hb := seqB hb hbn
    replace hra := hra.below hbn
    replace hrb := hrb.below hbn
    replace hrdX := hrdX.below hbn
    clear hbn
    have hrdZ := rd_of_row hrZ
    have HFZ := Lib.hid (row_fm hrZ)
    clear hrZ
    go_wp2_with fail
    refine (sameE BZ BX V.length dZ dX V _ rfl (by omega) hrdZ hrdX).mono ?_
    rintro e w6 ⟨rfl, qw6, rfl⟩
    have hbn := drewB w5 qw6
    generalize w5.drewN qw6 = w6 at *
    replace hb := seqB hb hbn
    replace hra := hra.below hbn
    replace hrb := hrb.below hbn
    replace hrdX := hrdX.below hbn
    replace hrdZ := hrdZ.below hbn
    clear hbn
    clear hrdZ
    go_wp2_with fail
    refine (implLMv V true BX V.length dX V A1 la.length c1 la _ H4.out rfl (by omega) HFX.out hrdX rfl (by omega) hFa hra).mono ?_
    rintro e w7 ⟨BU, dU, rfl, hrU, hbn⟩
    replace hb := seqB hb hbn
    replace hra := hra.below hbn
    replace hrb := hrb.below hbn
    replace hrdX := hrdX.below hbn
    clear hbn
    have hrdU := rd_of_row hrU
    have HFU := Lib.hid (row_fm hrU)
    clear hrU
    go_wp2_with fail
    refine (implLMv V true B1 lb.length d1 lb BX V.length dX V _ H5.out rfl (by omega) hFb hrb rfl (by omega) HFX.out hrdX).mono ?_
    rintro e w8 ⟨BV, dV, rfl, hrV, hbn⟩
    replace hb := seqB hb hbn
    replace hra := hra.below hbn
    replace hrb := hrb.below hbn
    replace hrdX := hrdX.below hbn
    replace hrdU := hrdU.below hbn
    clear hbn
    have hrdV := rd_of_row hrV
    have HFV := Lib.hid (row_fm hrV)
    clear hrV
    go_wp2_with fail
    refine (implLMv V true BX V.length dX V BX V.length dX V _ H6.out rfl (by omega) HFX.out hrdX rfl (by omega) HFX.out hrdX).mono ?_
    rintro e w9 ⟨BW, dW, rfl, hrW, hbn⟩
    replace hb := seqB hb hbn
    replace hra := hra.below hbn
    replace hrb := hrb.below hbn
    replace hrdX := hrdX.below hbn
    replace hrdU := hrdU.below hbn
    replace hrdV := hrdV.below hbn
    clear hbn
    have hrdW := rd_of_row hrW
    have HFW := Lib.hid (row_fm hrW)
    clear hrW
    go_wp2_with fail
    have HRA := Lib.hid hra; have HRB := Lib.hid hrb; have HRX := Lib.hid hrdX; have HRU := Lib.hid hrdU; have HRV := Lib.hid hrdV; have HRW := Lib.hid hrdW; have HBW := Lib.hid hb
    clear hra hrb hrdX hrdU hrdV hrdW hb
    go_loopw [17] (fun i wr => ∃ k : Nat, k ≤ V.length ∧ i = .int .i64 k ∧ Hid (Rd wr A1 (flatEntry la)) ∧ Hid (Rd wr B1 (flatEntry lb)) ∧ Hid (Rd wr BX (flatEntry V)) ∧ Hid (Rd wr BU (flatEntry V)) ∧ Hid (Rd wr BV (flatEntry V)) ∧ Hid (Rd wr BW (flatEntry V)) ∧ Hid (Below w.heap.size w wr)) (fun i _ => V.length - (intOf i).toNat)
    case atStart => exact ⟨0, by omega, rfl, HRA, HRB, HRX, HRU, HRV, HRW, HBW⟩
    case round =>
      clear HRA HRB HRX HRU HRV HRW HBW
      obtain ⟨k, hk, rfl, HRA, HRB, HRX, HRU, HRV, HRW, HBW⟩ := hrel
      by_cases hlt : k < V.length
      · skip
        have HK := Lib.hid (H7.out _ (mem_at hlt))
        obtain ⟨bb, o, rfl, hbl, hc0, hc1, hc2, hc3⟩ := HRX.out.atEntry (k := k) hlt
        generalize V.getD k Entry.zero = r at *
        obtain ⟨r0, r1, r2, r3⟩ := r
        dsimp only at hc0 hc1 hc2 hc3
        have hki : (k : Int) < (V.length : Int) := by omega
        have hk0 : (0 : Int) ≤ (k : Int) := by omega
        cases hra : la.any (eqE ⟨r0, r1, r2, r3⟩) with
        | true =>
          go_wp2_with fail
          refine (hasEC A1 la.length c1 la r0 r1 r2 r3 true _ rfl (by omega) hra HRA.out).mono ?_
          rintro e w6 ⟨rfl, hbn⟩
          replace hc0 := cell_keep hc0 hbn; replace hc1 := cell_keep hc1 hbn; replace hc2 := cell_keep hc2 hbn; replace hc3 := cell_keep hc3 hbn
          replace HRA := Lib.hid (HRA.out.below hbn)
          replace HRB := Lib.hid (HRB.out.below hbn)
          replace HRX := Lib.hid (HRX.out.below hbn)
          replace HRU := Lib.hid (HRU.out.below hbn)
          replace HRV := Lib.hid (HRV.out.below hbn)
          replace HRW := Lib.hid (HRW.out.below hbn)
          replace HBW := Lib.hid (seqB HBW.out hbn)
          clear hbn
          clear hc0 hc1 hc2 hc3 HK hra
          go_wp2_with fail
          go_roundw
          case rel => exact ⟨k + 1, by omega, by go_num, HRA, HRB, HRX, HRU, HRV, HRW, HBW⟩
          case measure => simp [intOf]; omega
        | false =>
          go_wp2_with fail
          refine (hasEC A1 la.length c1 la r0 r1 r2 r3 false _ rfl (by omega) hra HRA.out).mono ?_
          rintro e w6 ⟨rfl, hbn⟩
          replace hc0 := cell_keep hc0 hbn; replace hc1 := cell_keep hc1 hbn; replace hc2 := cell_keep hc2 hbn; replace hc3 := cell_keep hc3 hbn
          replace HRA := Lib.hid (HRA.out.below hbn)
          replace HRB := Lib.hid (HRB.out.below hbn)
          replace HRX := Lib.hid (HRX.out.below hbn)
          replace HRU := Lib.hid (HRU.out.below hbn)
          replace HRV := Lib.hid (HRV.out.below hbn)
          replace HRW := Lib.hid (HRW.out.below hbn)
          replace HBW := Lib.hid (seqB HBW.out hbn)
          clear hbn
          have hrb : lb.any (eqE ⟨r0, r1, r2, r3⟩) = true := HK.out.resolve_left (by rw [hra]; decide)
          go_wp2_with fail
          refine (hasEC B1 lb.length d1 lb r0 r1 r2 r3 true _ rfl (by omega) hrb HRB.out).mono ?_
          rintro e w7 ⟨rfl, hbn⟩
          replace HRA := Lib.hid (HRA.out.below hbn)
          replace HRB := Lib.hid (HRB.out.below hbn)
          replace HRX := Lib.hid (HRX.out.below hbn)
          replace HRU := Lib.hid (HRU.out.below hbn)
          replace HRV := Lib.hid (HRV.out.below hbn)
          replace HRW := Lib.hid (HRW.out.below hbn)
          replace HBW := Lib.hid (seqB HBW.out hbn)
          clear hbn
          clear hc0 hc1 hc2 hc3 HK hra hrb
          go_wp2_with fail
          go_roundw
          case rel => exact ⟨k + 1, by omega, by go_num, HRA, HRB, HRX, HRU, HRV, HRW, HBW⟩
          case measure => simp [intOf]; omega
      · skip
        have hki : ¬ ((k : Int) < (V.length : Int)) := by omega
        clear hk hlt
        have hb := HBW.out; have hrdX := HRX.out; have hrdU := HRU.out; have hrdV := HRV.out; have hrdW := HRW.out
        clear HBW HRX HRU HRV HRW HRA HRB
        have hcX := HFX.out.1
        go_wp2_with fail
        refine (implLVb V true BX V.length dX _ H3.out rfl (by omega) hrdX hcX).mono ?_
        rintro e w10 ⟨rfl, hbn⟩
        replace hb := seqB hb hbn
        replace hrdX := hrdX.below hbn
        replace hrdU := hrdU.below hbn
        replace hrdV := hrdV.below hbn
        replace hrdW := hrdW.below hbn
        clear hbn
        go_wp2_with fail
        refine (sameE BU BX V.length dU dX V _ rfl (by omega) hrdU hrdX).mono ?_
        rintro e w11 ⟨rfl, qw11, rfl⟩
        have hbn := drewB w10 qw11
        generalize w10.drewN qw11 = w11 at *
        replace hb := seqB hb hbn
        replace hrdX := hrdX.below hbn
        replace hrdU := hrdU.below hbn
        replace hrdV := hrdV.below hbn
        replace hrdW := hrdW.below hbn
        clear hbn
        go_wp2_with fail
        refine (sameE BV BX V.length dV dX V _ rfl (by omega) hrdV hrdX).mono ?_
        rintro e w12 ⟨rfl, qw12, rfl⟩
        have hbn := drewB w11 qw12
        generalize w11.drewN qw12 = w12 at *
        replace hb := seqB hb hbn
        replace hrdX := hrdX.below hbn
        replace hrdU := hrdU.below hbn
        replace hrdV := hrdV.below hbn
        replace hrdW := hrdW.below hbn
        clear hbn
        go_wp2_with fail
        refine (sameE BW BX V.length dW dX V _ rfl (by omega) hrdW hrdX).mono ?_
        rintro e w13 ⟨rfl, qw13, rfl⟩
        have hbn := drewB w12 qw13
        generalize w12.drewN qw13 = w13 at *
        replace hb := seqB hb hbn
        replace hrdX := hrdX.below hbn
        replace hrdU := hrdU.below hbn
        replace hrdV := hrdV.below hbn
        replace hrdW := hrdW.below hbn
        clear hbn
        go_wp2_with fail
        go_ret
        exact ⟨ret_bool (by simp), hb⟩
  · skip
    have H1 := Lib.hid h1; have H2 := Lib.hid h2
    clear h1 h2
    have hne : (false != false) = false := rfl
    go_wp2_with fail
    refine (implLMv [] false A1 la.length c1 la B1 lb.length d1 lb _ H1.out rfl (by omega) hFa hra rfl (by omega) hFb hrb).mono ?_
    rintro e w2 ⟨BX, dX, rfl, hrX, hbn⟩
    replace hb := seqB hb hbn
    replace hra := hra.below hbn
    replace hrb := hrb.below hbn
    clear hbn
    have hrdX := rd_of_row hrX
    have HFX := Lib.hid (row_fm hrX)
    clear hrX
    go_wp2_with fail
    refine (specLMv [] false A1 la.length c1 la B1 lb.length d1 lb _ H1.out rfl (by omega) hFa hra rfl (by omega) hrb).mono ?_
    rintro e w3 ⟨BS, dS, rfl, hrS, hbn⟩
    replace hb := seqB hb hbn
    replace hra := hra.below hbn
    replace hrb := hrb.below hbn
    replace hrdX := hrdX.below hbn
    clear hbn
    have hrdS := rd_of_row hrS
    have HFS := Lib.hid (row_fm hrS)
    clear hrS
    go_wp2_with fail
    refine (sameE BX BS 0 dX dS [] _ rfl (by omega) hrdX hrdS).mono ?_
    rintro e w4 ⟨rfl, qw4, rfl⟩
    have hbn := drewB w3 qw4
    generalize w3.drewN qw4 = w4 at *
    replace hb := seqB hb hbn
    replace hra := hra.below hbn
    replace hrb := hrb.below hbn
    replace hrdX := hrdX.below hbn
    replace hrdS := hrdS.below hbn
    clear hbn
    clear hrdS
    go_wp2_with fail
    refine (implLMv [] false B1 lb.length d1 lb A1 la.length c1 la _ H2.out rfl (by omega) hFb hrb rfl (by omega) hFa hra).mono ?_
    rintro e w5 ⟨BZ, dZ, rfl, hrZ, hbn⟩
    replace hb := seqB hb hbn
    replace hra := hra.below hbn
    replace hrb := hrb.below hbn
    replace hrdX := hrdX.below hbn
    clear hbn
    have hrdZ := rd_of_row hrZ
    have HFZ := Lib.hid (row_fm hrZ)
    clear hrZ
    go_wp2_with fail
    refine (sameE BZ BX 0 dZ dX [] _ rfl (by omega) hrdZ hrdX).mono ?_
    rintro e w6 ⟨rfl, qw6, rfl⟩
    have hbn := drewB w5 qw6
    generalize w5.drewN qw6 = w6 at *
    replace hb := seqB hb hbn
    replace hra := hra.below hbn
    replace hrb := hrb.below hbn
    replace hrdX := hrdX.below hbn
    replace hrdZ := hrdZ.below hbn
    clear hbn
    clear hrdZ
    go_wp2_with fail
    refine (aliveC _).mono ?_
    rintro e w7 ⟨rfl, hbn⟩
    replace hb := seqB hb hbn
    replace hra := hra.below hbn
    replace hrb := hrb.below hbn
    replace hrdX := hrdX.below hbn
    clear hbn
    go_wp2_with fail
    go_ret
    exact ⟨ret_bool (by simp), hb⟩
end Go.Proofs.YtdlphgknplomkaaDoor.lLM
