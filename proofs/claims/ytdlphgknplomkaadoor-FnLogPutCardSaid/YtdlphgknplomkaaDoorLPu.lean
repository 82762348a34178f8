/- The walk of FnLogPut: it returns true, and writes nothing that was there. -/
import Derived.Test.YtdlphgknplomkaaDoorDrP
import Derived.Test.YtdlphgknplomkaaDoorLogM
namespace Go.Proofs.YtdlphgknplomkaaDoor.lPu
open Go.RowKit Go.Proofs.YtdlphgknplomkaaDoor

def RetV (V : List Entry) (ok : Bool) (w : World) (en : Ending) (w' : World) : Prop :=
  ∃ B d, en = .returned (.tuple #[.slice B V.length d, .bool ok]) ∧ w'.ownsRow w.heap.size 25 4 (.slice B V.length d) V.length (flatEntry V) ∧ Below w.heap.size w w'
theorem implLPv (V : List Entry) (ok : Bool) (A : Option Addr) (n c : Nat) (l : List Entry) (t u v x : Int) (w : World) (h : putV l ⟨t, u, v, x⟩ = (V, ok)) (hn : l.length = n) (hm : n ≤ 1048576) (hF : Fm A n c) (hA : Rd w A (flatEntry l)) :
    Calls Tryd.prog 10 #[.slice A n c, .agg #[.int .i64 t, .int .i64 u, .int .i64 v, .int .i64 x]] w (RetV V ok w) := by
  refine (implLP A n c l t u v x w hn hm hF.1 hF.2 hA).mono fun e w' hr => ?_
  unfold RetLP at hr; rw [h] at hr; exact hr
theorem specLPv (V : List Entry) (ok : Bool) (A : Option Addr) (n c : Nat) (l : List Entry) (t u v x : Int) (w : World) (h : putV l ⟨t, u, v, x⟩ = (V, ok)) (hn : l.length = n) (hm : n ≤ 1048576) (hF : Fm A n c) (hA : Rd w A (flatEntry l)) :
    Calls Tryd.prog 11 #[.slice A n c, .agg #[.int .i64 t, .int .i64 u, .int .i64 v, .int .i64 x]] w (RetV V ok w) := by
  refine (specLP A n c l t u v x w hn hm hF.1 hF.2 hA).mono fun e w' hr => ?_
  unfold RetLP at hr; rw [h] at hr; exact hr
theorem put_bound {l : List Entry} {e : Entry} {V : List Entry} {ok : Bool} (h : putV l e = (V, ok)) : V.length ≤ l.length + 1 := by
  unfold putV at h
  split at h
  · split at h
    · cases h; omega
    · split at h
      · cases h; rw [insE_length]; omega
      · cases h; omega
  · cases h; simp
theorem put_false {l : List Entry} {e : Entry} {V : List Entry} (h : putV l e = (V, false)) : V = l ∨ V = [] := by
  unfold putV at h
  split at h
  · split at h
    · cases h
    · split at h
      · cases h
      · cases h; exact .inl rfl
  · cases h; exact .inr rfl
theorem put_true {l : List Entry} {e : Entry} {V : List Entry} (h : putV l e = (V, true)) : logB V = true ∧ (∀ y ∈ l, y ∈ V) ∧ e ∈ V ∧ decide (V.length = l.length) = l.any (eqE e) ∧ putV V e = (V, true) := by
  unfold putV at h
  split at h
  · next hv =>
    split at h
    · next ha =>
      cases h
      have hm := (any_eqE l e).1 ha
      exact ⟨hv, fun y hy => hy, hm, by rw [ha]; simp, put_has hv hm⟩
    · next ha =>
      split at h
      · next hi =>
        cases h
        have he : e ∈ insE l e := (mem_insE l e e).2 (.inr (by simp))
        refine ⟨hi, fun y hy => (mem_insE l e y).2 (.inl hy), he, ?_, put_has hi he⟩
        rw [insE_length, eq_false_of_ne_true ha]; simp
      · cases h
  · cases h
theorem any_mem {V : List Entry} {y : Entry} (h : y ∈ V) : V.any (eqE y) = true := (any_eqE V y).2 h
theorem mem_at {l : List Entry} {k : Nat} (hk : k < l.length) : l.getD k Entry.zero ∈ l := by
  have h := eAt_get hk
  show eAt l k ∈ l
  rw [h]; exact List.getElem_mem hk

set_option maxRecDepth 100000 in
set_option maxHeartbeats 4000000 in
theorem walk (w : World) (A : Option Addr) (m c : Nat) (hc : m ≤ c) (hm : m ≤ maxLen) (hA : RdB w A m) :
    Calls Tryd.prog 3 #[.slice A m c] w fun e w' => e = .returned (.bool true) ∧ Below w.heap.size w w' := by
  unfold maxLen at hm
  by_cases hs : m ≤ 1048576
  case neg =>
    go_enter Tryd.func3, Tryd.ntmps3
    go_wp2_with fail
    go_ret
    exact ⟨rfl, Below.refl _ _⟩
  have HA := Lib.hid hA; clear hA
  have hb : Below w.heap.size w w := Below.refl _ _
  go_enter Tryd.func3, Tryd.ntmps3
  go_wp2_with fail
  refine (dDrawLogPut A m c w hc hs HA.out).mono ?_
  rintro e w1 ⟨l, B, d, t, u, v, x, rfl, hl, hF, ho, hbn⟩
  replace hb := seqB hb hbn
  clear hbn
  clear HA
  have hlw : w.heap.size ≤ w1.heap.size := hb.size
  have BE := newboxL w1 (.cells #[.int .i64 t, .int .i64 u, .int .i64 v, .int .i64 x] 25)
  replace ho := ho.below (allocB (Below.refl _ _) (.cells #[.int .i64 t, .int .i64 u, .int .i64 v, .int .i64 x] 25))
  replace hb := allocB hb (.cells #[.int .i64 t, .int .i64 u, .int .i64 v, .int .i64 x] 25)
  obtain ⟨⟨V, ok⟩, hP⟩ : ∃ P, putV l ⟨t, u, v, x⟩ = P := ⟨_, rfl⟩
  have HP := Lib.hid hP; clear hP
  have hVl := put_bound HP.out
  go_wp2_with fail
  generalize w1.alloc (.cells #[.int .i64 t, .int .i64 u, .int .i64 v, .int .i64 x] 25) = W1 at *
  generalize w1.heap.size = q at *
  have e0 : W1.cell? ⟨q, 0, none⟩ = some (.int .i64 t) := boxcellL BE 0
  have e1 : W1.cell? ⟨q, 1, none⟩ = some (.int .i64 u) := boxcellL BE 1
  have e2 : W1.cell? ⟨q, 2, none⟩ = some (.int .i64 v) := boxcellL BE 2
  have e3 : W1.cell? ⟨q, 3, none⟩ = some (.int .i64 x) := boxcellL BE 3
  refine (implLPv V ok B l.length d l t u v x _ HP.out rfl (by omega) hF ho.rd).mono ?_
  rintro e w2 ⟨BX, dX, rfl, hrX, hbn⟩
  replace hb := seqB hb hbn
  replace ho := ho.below hbn
  replace BE := be_box BE hbn
  clear hbn
  have hrdX := rd_of_row hrX
  have HFX := Lib.hid (row_fm hrX)
  clear hrX
  clear e0 e1 e2 e3
  have e0 : w2.cell? ⟨q, 0, none⟩ = some (.int .i64 t) := boxcellL BE 0
  have e1 : w2.cell? ⟨q, 1, none⟩ = some (.int .i64 u) := boxcellL BE 1
  have e2 : w2.cell? ⟨q, 2, none⟩ = some (.int .i64 v) := boxcellL BE 2
  have e3 : w2.cell? ⟨q, 3, none⟩ = some (.int .i64 x) := boxcellL BE 3
  go_wp2_with fail
  refine (specLPv V ok B l.length d l t u v x _ HP.out rfl (by omega) hF ho.rd).mono ?_
  rintro e w3 ⟨BS, dS, rfl, hrS, hbn⟩
  replace hb := seqB hb hbn
  replace ho := ho.below hbn
  replace BE := be_box BE hbn
  replace hrdX := hrdX.below hbn
  clear hbn
  have hrdS := rd_of_row hrS
  clear hrS
  clear e0 e1 e2 e3
  have hVi : (V.length : Int) ≤ 18 := by omega
  go_wp2_with fail
  refine (sameE BX BS V.length dX dS V _ rfl (by omega) hrdX hrdS).mono ?_
  rintro e w4 ⟨rfl, qw4, rfl⟩
  have hbn := drewB w3 qw4
  generalize w3.drewN qw4 = w4 at *
  replace hb := seqB hb hbn
  replace ho := ho.below hbn
  replace BE := be_box BE hbn
  replace hrdX := hrdX.below hbn
  replace hrdS := hrdS.below hbn
  clear hbn
  clear hrdS
  cases ok with
  | false =>
    have hne : (false != false) = false := rfl
    rcases put_false HP.out with e1 | e1
    · subst e1
      go_wp2_with fail
      refine (sameE BX B V.length dX d V _ rfl (by omega) hrdX ho.rd).mono ?_
      rintro e w5 ⟨rfl, qw5, rfl⟩
      have hbn := drewB w4 qw5
      generalize w4.drewN qw5 = w5 at *
      replace hb := seqB hb hbn
      replace ho := ho.below hbn
      replace BE := be_box BE hbn
      replace hrdX := hrdX.below hbn
      clear hbn
      go_wp2_with fail
      refine (aliveC _).mono ?_
      rintro e w6 ⟨rfl, hbn⟩
      replace hb := seqB hb hbn
      replace ho := ho.below hbn
      replace BE := be_box BE hbn
      replace hrdX := hrdX.below hbn
      clear hbn
      go_wp2_with fail
      go_ret
      exact ⟨ret_bool (by simp), hb⟩
    · subst e1
      by_cases hl0 : l.length = 0
      · skip
        obtain rfl : l = [] := List.eq_nil_of_length_eq_zero hl0
        clear hl0
        go_wp2_with fail
        refine (sameE BX B 0 dX d [] _ rfl (by omega) hrdX ho.rd).mono ?_
        rintro e w5 ⟨rfl, qw5, rfl⟩
        have hbn := drewB w4 qw5
        generalize w4.drewN qw5 = w5 at *
        replace hb := seqB hb hbn
        replace ho := ho.below hbn
        replace BE := be_box BE hbn
        replace hrdX := hrdX.below hbn
        clear hbn
        go_wp2_with fail
        refine (aliveC _).mono ?_
        rintro e w6 ⟨rfl, hbn⟩
        replace hb := seqB hb hbn
        replace ho := ho.below hbn
        replace BE := be_box BE hbn
        replace hrdX := hrdX.below hbn
        clear hbn
        go_wp2_with fail
        go_ret
        exact ⟨ret_bool (by simp), hb⟩
      · skip
        go_wp2_with fail
        refine (sameNo BX B 0 l.length dX d _ (by omega)).mono ?_
        rintro e w5 ⟨rfl, qw5, rfl⟩
        have hbn := drewB w4 qw5
        generalize w4.drewN qw5 = w5 at *
        replace hb := seqB hb hbn
        replace ho := ho.below hbn
        replace BE := be_box BE hbn
        replace hrdX := hrdX.below hbn
        clear hbn
        go_wp2_with fail
        refine (aliveC _).mono ?_
        rintro e w6 ⟨rfl, hbn⟩
        replace hb := seqB hb hbn
        replace ho := ho.below hbn
        replace BE := be_box BE hbn
        replace hrdX := hrdX.below hbn
        clear hbn
        go_wp2_with fail
        go_ret
        exact ⟨ret_bool (by simp), hb⟩
  | true =>
    have hne : (true != true) = false := rfl
    obtain ⟨hLV, hsub, hmem, hlen, hagain⟩ := put_true HP.out
    have HLV := Lib.hid hLV; have HSUB := Lib.hid hsub; have HMEM := Lib.hid hmem; have HLEN := Lib.hid hlen; have HAG := Lib.hid hagain
    clear hLV hsub hmem hlen hagain
    go_wp2_with fail
    go_loopw [9] (fun i wr => ∃ k : Nat, k ≤ l.length ∧ i = .int .i64 k ∧ Hid (wr.heap[q]? = some (.cells #[.int .i64 t, .int .i64 u, .int .i64 v, .int .i64 x] 25 (0, 0))) ∧ Hid (Rd wr BX (flatEntry V)) ∧ Hid (Own wr w.heap.size 25 4 B l.length (flatEntry l)) ∧ Below w.heap.size w wr) (fun i _ => l.length - (intOf i).toNat)
    case atStart => exact ⟨0, by omega, rfl, BE, hrdX, ho, hb⟩
    case round =>
      clear BE hrdX ho hb
      obtain ⟨k, hk, rfl, BE, hrdX, ho, hb⟩ := hrel
      replace hrdX := hrdX.out; replace ho := ho.out
      by_cases hlt : k < l.length
      · skip
        have HK := Lib.hid (any_mem (HSUB.out _ (mem_at hlt)))
        obtain ⟨b, o, rfl, hbl, hc0, hc1, hc2, hc3⟩ := (ho.rd).atEntry (k := k) hlt
        generalize l.getD k Entry.zero = r at *
        obtain ⟨r0, r1, r2, r3⟩ := r
        dsimp only at hc0 hc1 hc2 hc3
        have hki : (k : Int) < (l.length : Int) := by omega
        go_wp2_with fail
        refine (hasEC BX V.length dX V r0 r1 r2 r3 true _ rfl (by omega) HK.out hrdX).mono ?_
        rintro e w6 ⟨rfl, hbn⟩
        clear hc0 hc1 hc2 hc3 HK
        replace hb := seqB hb hbn
        replace ho := ho.below hbn
        replace BE := be_box BE hbn
        replace hrdX := hrdX.below hbn
        clear hbn
        go_wp2_with fail
        go_roundw
        case rel => exact ⟨k + 1, by omega, by go_num, BE, hrdX, ho, hb⟩
        case measure => simp [intOf]; omega
      · skip
        have hki : ¬ ((k : Int) < (l.length : Int)) := by omega
        clear hk hlt
        have e0 : wr.cell? ⟨q, 0, none⟩ = some (.int .i64 t) := boxcellL BE 0
        have e1 : wr.cell? ⟨q, 1, none⟩ = some (.int .i64 u) := boxcellL BE 1
        have e2 : wr.cell? ⟨q, 2, none⟩ = some (.int .i64 v) := boxcellL BE 2
        have e3 : wr.cell? ⟨q, 3, none⟩ = some (.int .i64 x) := boxcellL BE 3
        go_wp2_with fail
        refine (implLPv V true BX V.length dX V t u v x _ HAG.out rfl (by omega) HFX.out hrdX).mono ?_
        rintro e w5 ⟨BA, dA, rfl, hrA, hbn⟩
        replace hb := seqB hb hbn
        replace ho := ho.below hbn
        replace BE := be_box BE hbn
        replace hrdX := hrdX.below hbn
        clear hbn
        clear e0 e1 e2 e3
        have hrdA := rd_of_row hrA
        clear hrA
        have hcX := HFX.out.1
        have e0 : w5.cell? ⟨q, 0, none⟩ = some (.int .i64 t) := boxcellL BE 0
        have e1 : w5.cell? ⟨q, 1, none⟩ = some (.int .i64 u) := boxcellL BE 1
        have e2 : w5.cell? ⟨q, 2, none⟩ = some (.int .i64 v) := boxcellL BE 2
        have e3 : w5.cell? ⟨q, 3, none⟩ = some (.int .i64 x) := boxcellL BE 3
        go_wp2_with fail
        refine (implLVb V true BX V.length dX _ HLV.out rfl (by omega) hrdX hcX).mono ?_
        rintro e w6 ⟨rfl, hbn⟩
        replace hb := seqB hb hbn
        replace ho := ho.below hbn
        replace BE := be_box BE hbn
        replace hrdX := hrdX.below hbn
        replace hrdA := hrdA.below hbn
        clear hbn
        clear e0 e1 e2 e3
        have hle : (V.length : Int) ≤ (l.length : Int) + 1 := by omega
        have hle2 : V.length ≤ l.length + 1 := by omega
        have e0 : w6.cell? ⟨q, 0, none⟩ = some (.int .i64 t) := boxcellL BE 0
        have e1 : w6.cell? ⟨q, 1, none⟩ = some (.int .i64 u) := boxcellL BE 1
        have e2 : w6.cell? ⟨q, 2, none⟩ = some (.int .i64 v) := boxcellL BE 2
        have e3 : w6.cell? ⟨q, 3, none⟩ = some (.int .i64 x) := boxcellL BE 3
        go_wp2_with fail
        refine (hasEC BX V.length dX V t u v x true _ rfl (by omega) (any_mem HMEM.out) hrdX).mono ?_
        rintro e w7 ⟨rfl, hbn⟩
        replace hb := seqB hb hbn
        replace ho := ho.below hbn
        replace BE := be_box BE hbn
        replace hrdX := hrdX.below hbn
        replace hrdA := hrdA.below hbn
        clear hbn
        clear e0 e1 e2 e3
        cases hany : l.any (eqE ⟨t, u, v, x⟩) with
        | true =>
          have hl2 : decide (V.length = l.length) = true := by rw [HLEN.out, hany]
          have HANY := Lib.hid hany; clear hany
          have hl3 : ((V.length : Int) == (l.length : Int)) = true := by have := of_decide_eq_true hl2; simp; omega
          clear hl2
          have e0 : w7.cell? ⟨q, 0, none⟩ = some (.int .i64 t) := boxcellL BE 0
          have e1 : w7.cell? ⟨q, 1, none⟩ = some (.int .i64 u) := boxcellL BE 1
          have e2 : w7.cell? ⟨q, 2, none⟩ = some (.int .i64 v) := boxcellL BE 2
          have e3 : w7.cell? ⟨q, 3, none⟩ = some (.int .i64 x) := boxcellL BE 3
          go_wp2_with fail
          refine (hasEC B l.length d l t u v x true _ rfl (by omega) HANY.out ho.rd).mono ?_
          rintro e w8 ⟨rfl, hbn⟩
          replace hb := seqB hb hbn
          replace ho := ho.below hbn
          replace BE := be_box BE hbn
          replace hrdX := hrdX.below hbn
          replace hrdA := hrdA.below hbn
          clear hbn
          clear e0 e1 e2 e3
          go_wp2_with fail
          refine (sameE BA BX V.length dA dX V _ rfl (by omega) hrdA hrdX).mono ?_
          rintro e w9 ⟨rfl, qw9, rfl⟩
          have hbn := drewB w8 qw9
          generalize w8.drewN qw9 = w9 at *
          replace hb := seqB hb hbn
          replace ho := ho.below hbn
          replace BE := be_box BE hbn
          replace hrdX := hrdX.below hbn
          replace hrdA := hrdA.below hbn
          clear hbn
          go_wp2_with fail
          go_ret
          exact ⟨ret_bool (by simp), hb⟩
        | false =>
          have hl2 : decide (V.length = l.length) = false := by rw [HLEN.out, hany]
          have HANY := Lib.hid hany; clear hany
          have hl3 : ((V.length : Int) == (l.length : Int)) = false := by have := of_decide_eq_false hl2; simp; omega
          clear hl2
          have e0 : w7.cell? ⟨q, 0, none⟩ = some (.int .i64 t) := boxcellL BE 0
          have e1 : w7.cell? ⟨q, 1, none⟩ = some (.int .i64 u) := boxcellL BE 1
          have e2 : w7.cell? ⟨q, 2, none⟩ = some (.int .i64 v) := boxcellL BE 2
          have e3 : w7.cell? ⟨q, 3, none⟩ = some (.int .i64 x) := boxcellL BE 3
          go_wp2_with fail
          refine (hasEC B l.length d l t u v x false _ rfl (by omega) HANY.out ho.rd).mono ?_
          rintro e w8 ⟨rfl, hbn⟩
          replace hb := seqB hb hbn
          replace ho := ho.below hbn
          replace BE := be_box BE hbn
          replace hrdX := hrdX.below hbn
          replace hrdA := hrdA.below hbn
          clear hbn
          clear e0 e1 e2 e3
          go_wp2_with fail
          refine (sameE BA BX V.length dA dX V _ rfl (by omega) hrdA hrdX).mono ?_
          rintro e w9 ⟨rfl, qw9, rfl⟩
          have hbn := drewB w8 qw9
          generalize w8.drewN qw9 = w9 at *
          replace hb := seqB hb hbn
          replace ho := ho.below hbn
          replace BE := be_box BE hbn
          replace hrdX := hrdX.below hbn
          replace hrdA := hrdA.below hbn
          clear hbn
          go_wp2_with fail
          go_ret
          exact ⟨ret_bool (by simp), hb⟩
end Go.Proofs.YtdlphgknplomkaaDoor.lPu
