/- Contracts of AckOrder and of both AlarmNext. No statement is proved here. -/
import Derived.Test.YtkpebmcmdplbeaaAlC
import Derived.Deep.LoopGhost
namespace Go.Proofs.Ytkpebmcmdplbeaa
open Go.RowKit

set_option maxRecDepth 100000 in
set_option maxHeartbeats 2000000 in
theorem specNx (A : Option Addr) (n c : Nat) (l : List Alarm) (w : World) (hn : l.length = n) (hm : n ≤ 1048576) (hA : Rd w A (flatAlarm l)) :
    Calls Try.prog 5 #[.slice A n c] w fun e w' => e = .returned (.int .i64 (nextV l)) ∧ Below w.heap.size w w' := by
  have HA := Lib.hid hA; clear hA
  have HN := Lib.hid hn; clear hn
  have hb : Below w.heap.size w w := Below.refl _ _
  cases hv : valAlarm l with
  | false =>
    have e : nextV l = -1 := by rw [nextV, hv]; rfl
    rw [e]; clear e
    go_enter Try.func5, Try.ntmps5
    go_wp2_with fail
    refine (specAV A n c l _ HN.out hm HA.out).mono ?_
    rintro e w1 ⟨rfl, q1, rfl⟩
    rw [hv]
    go_wp2_with fail
    go_ret
    exact ⟨rfl, drewNB hb q1⟩
  | true =>
    have HE : Hid (nextV l = nextTo l l.length) := by rw [Hid, nextV, hv]; rfl
    have h8 := valAlarm_len hv
    go_enter Try.func5, Try.ntmps5
    go_wp2_with fail
    refine (specAV A n c l _ HN.out hm HA.out).mono ?_
    rintro e w1 ⟨rfl, q1, rfl⟩
    rw [hv]
    replace hb := drewNB hb q1
    replace HA := Lib.hid (HA.out.drewN q1)
    generalize w.drewN q1 = w2 at *
    clear hv
    have h8' : n ≤ 8 := by have := HN.out; omega
    clear h8
    go_wp2_with fail
    go_loopw [3, 4] (fun v i wr => ∃ k : Nat, k ≤ n ∧ i = .int .i64 k ∧ v = .int .i64 (nextTo l k) ∧ Hid (∃ q, wr = w2.drewN q)) (fun _ i _ => n - (intOf i).toNat)
    case atStart => exact ⟨0, by omega, rfl, rfl, 0, rfl⟩
    case round =>
      obtain ⟨k, hk, rfl, rfl, HQ⟩ := hrel
      by_cases hlt : k < n
      · have hA' : Rd wr A (flatAlarm l) := by obtain ⟨q, rfl⟩ := HQ.out; exact HA.out.drewN q
        obtain ⟨b, o, rfl, _, c0, c1, c2⟩ := hA'.atAlarm (k := k) (by have := HN.out; omega)
        have i1 : (k : Int) < (n : Int) := by omega
        have HS : Hid (nextTo l (k + 1) = if alAct l k && (decide (nextTo l k < 0) || alBt l k (nextTo l k).toNat) then (k : Int) else nextTo l k) := rfl
        have HT : Hid (alAct l k = ((l.getD k Alarm.zero).fState == 1 || (l.getD k Alarm.zero).fState == 3)) := rfl
        cases hact : alAct l k with
        | false =>
          rw [Hid, hact] at HT HS
          have HS2 := Lib.hid HS; clear HS
          have e0 := HT.symm; clear HT
          rw [Bool.or_eq_false_iff] at e0
          obtain ⟨e1, e3⟩ := e0
          have f1 : ((l.getD k Alarm.zero).fState != 1) = true := by simpa using e1
          have f3 : ((l.getD k Alarm.zero).fState != 3) = true := by simpa using e3
          clear e1 e3 hact
          generalize (l.getD k Alarm.zero).fState = st at *
          generalize (l.getD k Alarm.zero).fRank = rk at *
          generalize (l.getD k Alarm.zero).fSince = si at *
          generalize nextTo l k = v at *
          clear hA'
          go_wp2_with fail
          go_roundw
          case rel => exact ⟨k + 1, by omega, by go_num, by rw [HS2.out]; rfl, HQ⟩
          case measure => simp [intOf]; omega
        | true =>
          have hst : (l.getD k Alarm.zero).fState = 1 ∨ ((l.getD k Alarm.zero).fState ≠ 1 ∧ (l.getD k Alarm.zero).fState = 3) := by
            rw [Hid, hact] at HT
            have := HT.symm
            rw [Bool.or_eq_true, beq_iff_eq, beq_iff_eq] at this
            omega
          clear HT
          rcases nextTo_spec l k with ⟨ev, _⟩ | ⟨j, ev, hj, _⟩
          · rw [ev] at HS ⊢
            have HS2 : Hid (nextTo l (k + 1) = k) := by rw [Hid, HS.out, hact]; rfl
            clear HS hact ev
            generalize (l.getD k Alarm.zero).fState = st at *
            generalize (l.getD k Alarm.zero).fRank = rk at *
            generalize (l.getD k Alarm.zero).fSince = si at *
            clear hA'
            rcases hst with rfl | ⟨hs1, rfl⟩
            all_goals
              go_wp2_with fail
              go_quiet (fail)
              go_wp2_with fail
              go_roundw
              case rel => exact ⟨k + 1, by omega, by go_num, by rw [HS2.out], drewN_more HQ⟩
              case measure => simp [intOf]; omega
          · rw [ev] at HS ⊢
            obtain ⟨_, _, e2, _, d0, d1, d2⟩ := hA'.atAlarm (k := j) (by have := HN.out; omega)
            cases e2
            have i2 : (j : Int) < (n : Int) := by omega
            have i3 : ¬ ((j : Int) < 0) := by omega
            have HS2 : Hid (nextTo l (k + 1) = if alBt l k j then (k : Int) else j) := by
              rw [Hid, HS.out, hact, decide_eq_false i3]; simp
            have HB : Hid (alBt l k j = (decide ((l.getD j Alarm.zero).fRank < (l.getD k Alarm.zero).fRank) || ((l.getD k Alarm.zero).fRank == (l.getD j Alarm.zero).fRank && decide ((l.getD k Alarm.zero).fSince < (l.getD j Alarm.zero).fSince)))) := rfl
            clear HS hact ev
            generalize (l.getD k Alarm.zero).fState = st at *
            generalize (l.getD k Alarm.zero).fRank = rk at *
            generalize (l.getD k Alarm.zero).fSince = si at *
            generalize (l.getD j Alarm.zero).fState = st' at *
            generalize (l.getD j Alarm.zero).fRank = rk' at *
            generalize (l.getD j Alarm.zero).fSince = si' at *
            generalize alBt l k j = bt at *
            clear hA'
            have f0 : decide ((j : Int) < 0) = false := decide_eq_false i3
            rcases hst with rfl | ⟨hs1, rfl⟩
            all_goals
              cases g1 : decide (rk' < rk) with
              | true =>
                have HF : Hid (bt = true) := by rw [Hid, HB.out, g1]; rfl
                go_wp2_with fail
                go_quiet (fail)
                go_wp2_with fail
                go_roundw
                case rel => exact ⟨k + 1, by omega, by go_num, by rw [HS2.out, HF.out]; rfl, drewN_more HQ⟩
                case measure => simp [intOf]; omega
              | false =>
                cases g2 : (rk == rk') with
                | false =>
                  have HF : Hid (bt = false) := by rw [Hid, HB.out, g1, g2]; rfl
                  go_wp2_with fail
                  go_quiet (fail)
                  go_wp2_with fail
                  go_roundw
                  case rel => exact ⟨k + 1, by omega, by go_num, by rw [HS2.out, HF.out]; rfl, drewN_more HQ⟩
                  case measure => simp [intOf]; omega
                | true =>
                  cases g3 : decide (si < si') with
                  | false =>
                    have HF : Hid (bt = false) := by rw [Hid, HB.out, g1, g2, g3]; rfl
                    go_wp2_with fail
                    go_quiet (fail)
                    go_wp2_with fail
                    go_roundw
                    case rel => exact ⟨k + 1, by omega, by go_num, by rw [HS2.out, HF.out]; rfl, drewN_more HQ⟩
                    case measure => simp [intOf]; omega
                  | true =>
                    have HF : Hid (bt = true) := by rw [Hid, HB.out, g1, g2, g3]; rfl
                    go_wp2_with fail
                    go_quiet (fail)
                    go_wp2_with fail
                    go_roundw
                    case rel => exact ⟨k + 1, by omega, by go_num, by rw [HS2.out, HF.out]; rfl, drewN_more HQ⟩
                    case measure => simp [intOf]; omega
      · go_wp2_with fail
        go_ret
        obtain ⟨q, rfl⟩ := HQ.out
        have hkn : k = n := by omega
        exact ⟨ret_int (by rw [HE.out, hkn, HN.out]), drewNB hb q⟩

/-- the indices in order, in memory of its own -/
def RetO (l : List Alarm) (w : World) (e : Ending) (w' : World) : Prop :=
  ∃ (ys : List Nat) (B : Option Addr) (c : Nat), e = .returned (.slice B ys.length c) ∧ ys.length ≤ 8 ∧ ys.Pairwise (fun i j => alBt l i j = true ∨ (alBt l j i = false ∧ i < j)) ∧ (∀ k, k ∈ ys ↔ k < l.length ∧ alAct l k = true) ∧ Own w' w.heap.size 3 1 B ys.length (ints (natsA ys)) ∧ Below w.heap.size w w'
theorem natsA_snoc (l : List Nat) (k : Nat) : natsA (l ++ [k]) = natsA l ++ [(k : Int)] := by simp [natsA]
theorem snoc_nats {w : World} {v : Value} {base : Nat} {acc : List Nat} {k : Nat} (h : w.ownsRow base 3 1 v (acc.length + 1) (ints (natsA acc) ++ [.int .i64 (k : Int)])) :
    ∃ B c, v = .slice B (acc ++ [k]).length c ∧ w.ownsRow base 3 1 (.slice B (acc ++ [k]).length c) (acc ++ [k]).length (ints (natsA (acc ++ [k]))) := by
  have e1 : (acc ++ [k]).length = acc.length + 1 := by simp
  have e2 : ints (natsA (acc ++ [k])) = ints (natsA acc) ++ [.int .i64 (k : Int)] := by rw [natsA_snoc]; simp [ints]
  rw [e1, e2]
  obtain ⟨B, c, rfl, _⟩ := own_of_row h
  exact ⟨B, c, rfl, h⟩
set_option maxRecDepth 100000 in
set_option maxHeartbeats 2000000 in
theorem implAck (A : Option Addr) (n c : Nat) (l : List Alarm) (w : World) (hn : l.length = n) (hA : Rd w A (flatAlarm l)) (hv : valAlarm l = true) :
    Calls Try.prog 11 #[.slice A n c] w (RetO l w) := by
  have HA := Lib.hid hA; clear hA
  have HN := Lib.hid hn
  have h8 := valAlarm_len hv
  have h8' : n ≤ 8 := by omega
  clear h8 hn
  obtain ⟨i0, hi0, hz0, hz1, hz2⟩ := info_parts info_int
  have HI := Lib.hid (And.intro hi0 (And.intro hz0 (And.intro hz1 hz2))); clear hi0 hz0 hz1 hz2
  have hb01 := allocB (Below.refl w.heap.size w) (.cells #[.slice A n c] 25)
  have hbx : (w.alloc (.cells #[.slice A n c] 25)).cell? ⟨w.heap.size, 0, none⟩ = some (.slice A n c) := by rw [cell_of_row _ w.heap.size 0 _ _ (0, 0) (heap_alloc_new w _)]; rfl
  have hsz : (w.alloc (.cells #[.slice A n c] 25)).heap.size = w.heap.size + 1 := by simp
  have hAg : ∀ a, A = some a → 0 < n → a.block < w.heap.size := by
    intro a ea h0
    obtain ⟨x, o, e, hlt, _⟩ := HA.out (by rw [flatAlarm_length, HN.out]; omega)
    rw [ea] at e; cases e; exact hlt
  have HAG := Lib.hid hAg; clear hAg
  go_enter Try.func11, Try.ntmps11
  replace HA := Lib.hid (HA.out.below hb01)
  go_wp2_with fail
  generalize w.alloc (.cells #[.slice A n c] 25) = w1 at *
  refine (implAV A n c l _ HN.out (by omega) HA.out).mono ?_
  rintro e w2 ⟨rfl, hb12⟩
  rw [hv]
  have hbx2 := (hb12.cell (p := ⟨w.heap.size, 0, none⟩) (by simp; omega)).trans hbx
  have hw2 : w.heap.size + 1 ≤ w2.heap.size := by have := hb12.size; omega
  have HBX := Lib.hid hbx
  clear hbx hv
  have hown0 : w2.ownsRow w1.heap.size 3 1 (.slice none 0 0) 0 [] := ⟨by simp, .inl ⟨rfl, rfl⟩⟩
  go_wp2_with fail
  clear hbx2
  go_loopw [3, 11] (fun v i wr => ∃ k : Nat, k ≤ n ∧ i = .int .i64 k ∧ (∃ B c', v = .slice B (actTo l k).length c' ∧ wr.ownsRow w1.heap.size 3 1 (.slice B (actTo l k).length c') (actTo l k).length (ints (natsA (actTo l k)))) ∧ Below w1.heap.size w1 wr) (fun _ i _ => n - (intOf i).toNat)
  case atStart => exact ⟨0, by omega, rfl, ⟨_, _, rfl, hown0⟩, hb12⟩
  case round =>
    clear hown0 hb12 hw2
    obtain ⟨k, hk, rfl, ⟨B, c', rfl, hown⟩, hbw⟩ := hrel
    by_cases hlt : k < n
    · have hlen := actTo_le l k
      have HS := Lib.hid (actTo_succ l k)
      generalize actTo l k = acc at *
      obtain ⟨b, o, rfl, hbl, hc0, hc1, hc2⟩ := (HA.out.below hbw).atAlarm (k := k) (by have := HN.out; omega)
      have HT : Hid (alAct l k = ((l.getD k Alarm.zero).fState == 1 || (l.getD k Alarm.zero).fState == 3)) := rfl
      generalize l.getD k Alarm.zero = r at *
      obtain ⟨rk, st, si⟩ := r
      have hown2 := hown.alloc (Obj.cells #[.int .i64 rk, .int .i64 st, .int .i64 si] 31)
      have hbw2 := allocB hbw (Obj.cells #[.int .i64 rk, .int .i64 st, .int .i64 si] 31)
      cases hact : alAct l k with
      | false =>
        have HE : Hid (actTo l (k + 1) = acc) := by rw [Hid, HS.out, hact]; simp
        have e0 := HT.out
        rw [hact] at e0
        have e0' := e0.symm
        rw [Bool.or_eq_false_iff] at e0'
        obtain ⟨e1, e3⟩ := e0'
        clear HS HT e0 hact
        go_wp2_with fail
        go_roundw
        case rel => exact ⟨k + 1, by omega, by go_num, by rw [HE.out]; exact ⟨_, _, rfl, hown2⟩, hbw2⟩
        case measure => simp [intOf]; omega
      | true =>
        have HE : Hid (actTo l (k + 1) = acc ++ [k]) := by rw [Hid, HS.out, hact]; simp
        have hst : st = 1 ∨ ((st == 1) = false ∧ st = 3) := by
          have e0 := HT.out
          rw [hact] at e0
          have := e0.symm
          simp only [Bool.or_eq_true, beq_iff_eq] at this
          by_cases h : st = 1
          · exact .inl h
          · exact .inr ⟨by simpa using h, by omega⟩
        clear HS HT hact
        rcases hst with rfl | ⟨hs1, rfl⟩
        · go_wp2_with (at_builtin; refine wpList_app1g (wr.alloc (Obj.cells #[.int .i64 rk, .int .i64 1, .int .i64 si] 31)) rfl _ _ _ rfl w1.heap.size 3 i0 _ 1 8 Try.underlying34 HI.out rfl (by omega) (.slice B acc.length c') acc.length (ints (natsA acc)) rfl hown2 #[.int .i64 (k : Int)] (wr.heap.size + 1) (by simp) rfl rfl (by simp [Value.oneCell']) (by omega) (by omega) hbw2.size ?_; intro v' w9 hown3 hg3)
          have hbw3 := row_alloc_grown hbw2 rfl hown2 hg3
          clear hbw2 hown2 hg3
          go_roundw
          case rel => exact ⟨k + 1, by omega, by go_num, by rw [HE.out]; exact snoc_nats hown3, hbw3⟩
          case measure => simp [intOf]; omega
        · go_wp2_with (at_builtin; refine wpList_app1g (wr.alloc (Obj.cells #[.int .i64 rk, .int .i64 3, .int .i64 si] 31)) rfl _ _ _ rfl w1.heap.size 3 i0 _ 1 8 Try.underlying34 HI.out rfl (by omega) (.slice B acc.length c') acc.length (ints (natsA acc)) rfl hown2 #[.int .i64 (k : Int)] (wr.heap.size + 1) (by simp) rfl rfl (by simp [Value.oneCell']) (by omega) (by omega) hbw2.size ?_; intro v' w9 hown3 hg3)
          have hbw3 := row_alloc_grown hbw2 rfl hown2 hg3
          clear hbw2 hown2 hg3
          go_roundw
          case rel => exact ⟨k + 1, by omega, by go_num, by rw [HE.out]; exact snoc_nats hown3, hbw3⟩
          case measure => simp [intOf]; omega
    · have hkn : k = n := by omega
      subst hkn
      obtain ⟨B', c2', e, ho⟩ := own_of_row hown
      cases e
      clear hown
      have hlen := actTo_le l k
      have HM := Lib.hid (mem_actTo l k)
      have HP := Lib.hid (actTo_asc l k)
      generalize actTo l k = acc at *
      have hbT : Below w.heap.size w wr := hb01.trans (hbw.mono (by omega))
      have hAw := HA.out.below hbw
      have hbx3 := (hbw.cell (p := ⟨w.heap.size, 0, none⟩) (by simp; omega)).trans HBX.out
      rcases Nat.eq_zero_or_pos acc.length with h0 | h0
      · have e0 : acc = [] := List.eq_nil_of_length_eq_zero h0
        subst e0
        clear ho
        go_wp2_with fail
        refine (sortC _ 0 c' _ _ (by omega) (fun w' => w' = wr) ((ins0 _ c' _ wr).mono (fun e w' h => ⟨h.1, h.2.symm⟩))).mono ?_
        rintro e w' ⟨rfl, rfl⟩
        go_wp2_with fail
        go_ret
        exact ⟨[], B, c', rfl, by simp, List.Pairwise.nil, fun j => by rw [HM.out j, HN.out], Own.nil, hbT⟩
      · obtain ⟨g, rfl, hge, hlt2⟩ := ho.form h0
        have hgA : ∀ a, A = some a → a.block ≠ g := by
          intro a ea
          have := HAG.out a ea (by omega)
          omega
        have hcon := insA w1.heap.size g w.heap.size A k c c' l acc (fun i hi => ((HM.out i).1 hi).1) HP.out wr HN.out h0 (by omega) (by omega) hgA hbx3 hAw ho
        have HC := Lib.hid hcon; clear hcon
        go_wp2_with fail
        refine (sortC _ acc.length c' _ _ (by omega) _ HC.out).mono ?_
        rintro e w' ⟨rfl, ys, e1, e2, e3, e4, e5⟩
        have HE := Lib.hid (And.intro e2 e3); clear e2 e3 hbx3
        go_wp2_with fail
        go_ret
        exact ⟨ys, some ⟨g, 0, none⟩, c', by rw [e1]; rfl, by omega, HE.out.1, fun j => by rw [HE.out.2 j, HM.out j, HN.out], by rw [e1]; exact e4.mono (by omega), hbT.trans (e5.mono (by omega))⟩
set_option maxHeartbeats 1000000 in
theorem implNx (A : Option Addr) (n c : Nat) (l : List Alarm) (w : World) (hn : l.length = n) (hm : n ≤ 1048576) (hA : Rd w A (flatAlarm l)) :
    Calls Try.prog 7 #[.slice A n c] w fun e w' => e = .returned (.int .i64 (nextV l)) ∧ Below w.heap.size w w' := by
  have HA := Lib.hid hA; clear hA
  have HN := Lib.hid hn; clear hn
  cases hv : valAlarm l with
  | false =>
    have e : nextV l = -1 := by rw [nextV, hv]; rfl
    rw [e]; clear e
    have hack : Calls Try.prog 11 #[.slice A n c] w fun e w' => e = .returned (.slice none 0 0) ∧ Below w.heap.size w w' := by
      have hb01 := allocB (Below.refl w.heap.size w) (.cells #[.slice A n c] 25)
      have hbx : (w.alloc (.cells #[.slice A n c] 25)).cell? ⟨w.heap.size, 0, none⟩ = some (.slice A n c) := by rw [cell_of_row _ w.heap.size 0 _ _ (0, 0) (heap_alloc_new w _)]; rfl
      have hsz : w.heap.size ≤ (w.alloc (.cells #[.slice A n c] 25)).heap.size := by simp
      go_enter Try.func11, Try.ntmps11
      replace HA := Lib.hid (HA.out.below hb01)
      go_wp2_with fail
      generalize w.alloc (.cells #[.slice A n c] 25) = w1 at *
      refine (implAV A n c l _ HN.out hm HA.out).mono ?_
      rintro e w2 ⟨rfl, hb12⟩
      rw [hv]
      go_wp2_with fail
      go_ret
      exact ⟨rfl, hb01.trans (hb12.mono hsz)⟩
    have HK := Lib.hid hack; clear hack
    go_enter Try.func7, Try.ntmps7
    go_wp2_with fail
    refine HK.out.mono ?_
    rintro e w1 ⟨rfl, hb⟩
    go_wp2_with fail
    go_ret
    exact ⟨rfl, hb⟩
  | true =>
    have HE : Hid (nextV l = nextTo l l.length) := by rw [Hid, nextV, hv]; rfl
    have HK := Lib.hid (implAck A n c l w HN.out HA.out hv)
    clear hv
    go_enter Try.func7, Try.ntmps7
    go_wp2_with fail
    refine HK.out.mono ?_
    rintro e w1 ⟨ys, B, c2, rfl, h8, hp, hmem, ho, hb⟩
    have HH := Lib.hid (next_head hp hmem); clear hp hmem
    cases ys with
    | nil =>
      clear ho
      go_wp2_with fail
      go_ret
      exact ⟨ret_int (by rw [HE.out, HH.out]; rfl), hb⟩
    | cons y t =>
      obtain ⟨b, o, rfl, _, hc⟩ := ho.rd.int (k := 0) (by simp [natsA])
      have hy : (natsA (y :: t)).getD 0 0 = (y : Int) := by simp [natsA]
      rw [hy, Nat.add_zero] at hc
      have hl1 : (((y :: t).length : Int) == 0) = false := by first | (simp; done) | (simp; omega)
      have hl2 : (0 : Int) < ((y :: t).length : Int) := by first | (simp; done) | (simp; omega)
      generalize (y :: t).length = m at *
      clear ho hy
      go_wp2_with fail
      go_ret
      exact ⟨ret_int (by rw [HE.out, HH.out]; rfl), hb⟩
end Go.Proofs.Ytkpebmcmdplbeaa
