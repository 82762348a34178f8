/- The contract of DrawLogMerge: two lists of entries are drawn; nothing is said of their values. No statement is proved here. -/
import Derived.Test.YtdlphgknplomkaaDoorDrP
namespace Go.Proofs.YtdlphgknplomkaaDoor
open Go.RowKit

theorem put_bound' {l : List Entry} {e : Entry} : (putV l e).1.length ≤ l.length + 1 := by
  unfold putV
  split
  · split
    · show l.length ≤ _; omega
    · split
      · show (insE l e).length ≤ _; rw [insE_length]; exact Nat.le_refl _
      · show l.length ≤ _; omega
  · simp
theorem row_set {w : World} {base n g j : Nat} {u : Value} {E : TypeId} {size : Nat} {v : Value} {cs : List Value} (hown : w.ownsRow base E size v n cs) (hne : ∀ k, v.ownBlock = some k → k ≠ g) : (w.setCell ⟨g, j, none⟩ u).ownsRow base E size v n cs := by
  refine hown.kept (set_grown w g j u) ?_
  cases hv : v.ownBlock with
  | none => exact .inl rfl
  | some k => exact .inr (by have := hne k hv; intro e; cases e; exact this rfl)
def DrLM (w : World) (e : Ending) (w' : World) : Prop :=
  ∃ (a b : List Entry) (A B : Option Addr) (c d : Nat), e = .returned (.tuple #[.slice A a.length c, .slice B b.length d]) ∧ a.length ≤ 17 ∧ b.length ≤ 25 ∧ Fm A a.length c ∧ Fm B b.length d ∧ Own w' w.heap.size 25 4 A a.length (flatEntry a) ∧ Own w' w.heap.size 25 4 B b.length (flatEntry b) ∧ Below w.heap.size w w'
set_option maxRecDepth 100000 in
set_option maxHeartbeats 4000000 in
theorem dDrawLogMerge (A : Option Addr) (m c : Nat) (w : World) (hc : m ≤ c) (hm : m ≤ 1048576) (hA : RdB w A m) : Calls Tryd.prog 22 #[.slice A m c] w (DrLM w) := by
  have HB := Lib.hid hA; clear hA
  obtain ⟨i0, hi0, hz0, hz1, hz2⟩ := info_parts info_Entry
  have HI := Lib.hid (And.intro hi0 (And.intro hz0 (And.intro hz1 hz2))); clear hi0 hz0 hz1 hz2
  go_enter Tryd.func22, Tryd.ntmps22
  go_wp2_with fail
  refine (openC _ _ _ _ hc hm HB.out).mono ?_
  rintro e w1 ⟨rfl, hR, hbn⟩
  have HR := Lib.hid hR; clear hR
  have hz := hbn.size
  have hlt : w.heap.size < w1.heap.size := HR.out.lt
  have HG := Lib.hid hbn; clear hbn
  obtain ⟨R, hRe⟩ : ∃ R, R = w.heap.size := ⟨_, rfl⟩
  rw [← hRe] at HR hlt ⊢
  have hRw : w.heap.size ≤ R := by omega
  clear hRe HB
  go_wp2_with fail
  refine (drLog R 0 9 _ HR.out (by omega) (by omega) (by omega)).mono ?_
  rintro e w2 ⟨l, B, c2, rfl, hl, hF, ho, hR, hg⟩
  replace HR := Lib.hid (hR.mono (show _ ≤ 40 by omega))
  replace HG := Lib.hid (gr_below HG.out hg hRw)
  have HO := Lib.hid ho
  have HL : Hid (R < w2.heap.size) := Nat.lt_of_lt_of_le hlt hg.size
  have hz2 : w.heap.size ≤ w2.heap.size := by have := HG.out.size; omega
  clear hR hg ho
  have HGr := Lib.hid (gr_refl w2 R)
  have hown : (w2.alloc (.cells #[] 25)).ownsRow w2.heap.size 25 4 (.slice (some ⟨w2.heap.size, 0, none⟩) 0 0) 0 (flatEntry []) := World.ownsRow_lit w2 #[] 0 (Nat.le_refl _) (Nat.zero_le _) rfl
  replace HR := Lib.hid (rdr_alloc HR.out (.cells #[] 25))
  replace HGr := Lib.hid (gr_alloc HGr.out (.cells #[] 25))
  have HW := Lib.hid hown; clear hown
  go_wp2_with fail
  go_loopw [6, 7] (fun v i wr => ∃ (k : Nat) (acc : List Entry), k ≤ l.length ∧ i = .int .i64 k ∧ acc.length ≤ k ∧ (∃ B c', v = .slice B acc.length c' ∧ Hid (wr.ownsRow w2.heap.size 25 4 (.slice B acc.length c') acc.length (flatEntry acc))) ∧ Hid (Rdr wr R (40 + k)) ∧ Hid (w2.grownBy wr (some R))) (fun _ i _ => l.length - (intOf i).toNat)
  case atStart => exact ⟨0, [], by omega, rfl, by simp, ⟨_, _, rfl, HW.out⟩, Lib.hid (HR.out.mono (by omega)), HGr⟩
  case round =>
    clear HR HW HGr
    obtain ⟨k, acc, hk, rfl, hacc, ⟨Bb, cb, rfl, HW⟩, HR, HGr⟩ := hrel
    by_cases hlk : k < l.length
    · have hki : (k : Int) < (l.length : Int) := by omega
      have hk0 : (0 : Int) ≤ (k : Int) := by omega
      go_wp2_with fail
      refine (pickC R _ 2 _ HR.out (by omega) (by omega)).mono ?_
      rintro e w3 ⟨p, rfl, hx, hR, hg⟩
      replace HW := Lib.hid (row_dr HW.out hg HL.out)
      replace HR := Lib.hid hR
      replace HGr := Lib.hid (HGr.out.trans hg)
      clear hR hg hx
      obtain ⟨bb, o, rfl, hbl, hc0, hc1, hc2, hc3⟩ := (own_dr HO.out HGr.out hlt).rd.atEntry (k := k) hlk
      generalize l.getD k Entry.zero = r at *
      obtain ⟨r0, r1, r2, r3⟩ := r
      dsimp only at hc0 hc1 hc2 hc3
      cases e0 : ((p : Int) == 0) with
      | false =>
        go_wp2_with fail
        go_roundw
        case rel => exact ⟨k + 1, acc, by omega, by go_num, by omega, ⟨_, _, rfl, HW⟩, Lib.hid (HR.out.mono (by omega)), HGr⟩
        case measure => simp [intOf]; omega
      | true =>
        have hown := HW.out
        go_wp2_with (at_builtin; refine wpList_app1 w3 rfl _ _ _ rfl w2.heap.size 25 i0 _ 4 32 Tryd.underlying23 HI.out rfl (by omega) (.slice Bb acc.length cb) acc.length (flatEntry acc) rfl hown #[.int .i64 r0, .int .i64 r1, .int .i64 r2, .int .i64 r3] rfl rfl (by simp [Value.oneCell']) (by omega) (by omega) HGr.out.size ?_; intro v' w9 hown9 hg9)
        have HR9 := Lib.hid (rdr_row HR.out hown hg9 HL.out)
        have HG9 := Lib.hid (gr_row HGr.out hown hg9 (Nat.le_refl _))
        obtain ⟨B9, d9, rfl, hr9⟩ := snocEntry (r := ⟨r0, r1, r2, r3⟩) hown9 rfl
        have HW9 := Lib.hid hr9
        clear hown hown9 hg9 hr9 hc0 hc1 hc2 hc3 hbl
        go_roundw
        case rel => exact ⟨k + 1, acc ++ [⟨r0, r1, r2, r3⟩], by omega, by go_num, by simp; omega, ⟨_, _, rfl, HW9⟩, Lib.hid (HR9.out.mono (by omega)), HG9⟩
        case measure => simp [intOf]; omega
    · have hki : ¬ (k : Int) < (l.length : Int) := by omega
      have ha17 : acc.length ≤ 17 := by omega
      replace HR := Lib.hid (HR.out.mono (show 40 + k ≤ 57 by omega))
      clear hacc hk hlk
      go_wp2_with fail
      refine (pickC R _ 4 _ HR.out (by omega) (by omega)).mono ?_
      rintro e w3 ⟨p, rfl, hx, hR, hg⟩
      replace HW := Lib.hid (row_dr HW.out hg HL.out)
      replace HR := Lib.hid hR
      replace HGr := Lib.hid (HGr.out.trans hg)
      have hp3 : p ≤ 3 := by omega
      clear hR hg hx
      go_wp2_with fail
      go_loopw [6, 8] (fun v i wr => ∃ (j : Nat) (acc : List Entry), j ≤ 3 ∧ i = .int .i64 j ∧ acc.length ≤ 20 - j ∧ (∃ B c', v = .slice B acc.length c' ∧ Hid (wr.ownsRow w2.heap.size 25 4 (.slice B acc.length c') acc.length (flatEntry acc))) ∧ Hid (Rdr wr R (58 + 5 * (3 - j))) ∧ Hid (w2.grownBy wr (some R))) (fun _ i _ => (intOf i).toNat)
      case atStart => exact ⟨p, acc, hp3, rfl, by omega, ⟨_, _, rfl, HW.out⟩, Lib.hid (HR.out.mono (by omega)), HGr⟩
      case round =>
        clear HR HW HGr hp3 ha17
        obtain ⟨j, acc, hj, rfl, hacc, ⟨Bb, cb, rfl, HW⟩, HR, HGr⟩ := hrel
        by_cases hj0 : 0 < j
        · have hk1 : ((j - 1 : Nat) : Int) = (j : Int) - 1 := by omega
          have hji : (0 : Int) < (j : Int) := by omega
          go_wp2_with fail
          refine (drEntry R _ _ HR.out (by omega)).mono ?_
          rintro e w4 ⟨t0, t1, t2, t3, rfl, hR, hg⟩
          replace HW := Lib.hid (row_dr HW.out hg HL.out)
          replace HR := Lib.hid hR
          replace HGr := Lib.hid (HGr.out.trans hg)
          clear hR hg
          have hq2 : w2.heap.size ≤ w4.heap.size := HGr.out.size
          have B_q := new_box w4 (.cells #[.int .i64 t0, .int .i64 t1, .int .i64 t2, .int .i64 t3] 25)
          have N_q : R < w4.heap.size := by have := HL.out; omega
          have HWQ : Hid (∀ k, (Value.slice Bb acc.length cb).ownBlock = some k → k ≠ w4.heap.size) := fun k e => by have := (HW.out.lt k e).2; omega
          replace HW := Lib.hid (row_below HW.out (allocB (Below.refl _ _) (.cells #[.int .i64 t0, .int .i64 t1, .int .i64 t2, .int .i64 t3] 25)))
          replace HR := Lib.hid (rdr_alloc HR.out (.cells #[.int .i64 t0, .int .i64 t1, .int .i64 t2, .int .i64 t3] 25))
          replace HGr := Lib.hid (gr_alloc HGr.out (.cells #[.int .i64 t0, .int .i64 t1, .int .i64 t2, .int .i64 t3] 25))
          obtain ⟨q, hq⟩ : ∃ q, w4.heap.size = q := ⟨_, rfl⟩
          go_wp2_with fail
          rw [hq] at B_q N_q HWQ
          have hq2' : w2.heap.size ≤ q := by omega
          generalize w4.alloc (.cells #[.int .i64 t0, .int .i64 t1, .int .i64 t2, .int .i64 t3] 25) = W at *
          clear hq hq2
          refine (pickC R _ 3 _ HR.out (by omega) (by omega)).mono ?_
          rintro e w5 ⟨p, rfl, hx, hR, hg⟩
          replace HW := Lib.hid (row_dr HW.out hg HL.out)
          replace HR := Lib.hid hR
          replace HGr := Lib.hid (HGr.out.trans hg)
          replace B_q := dr_box B_q hg (by omega)
          have hp2 : (p : Int) ≤ 2 := by omega
          have hp0 : (0 : Int) ≤ (p : Int) := by omega
          clear hR hg hx
          have k1 : w5.cell? ⟨q, 1, none⟩ = some (.int .i64 t1) := box_cell B_q 1
          have y1 : w5.frozen? ⟨q, 1, none⟩ = false := box_free B_q 1
          replace B_q := st_same B_q 1 (.int .i64 (3 + (p : Int)))
          replace HR := Lib.hid (rdr_set HR.out 1 (.int .i64 (3 + (p : Int))) N_q)
          replace HGr := Lib.hid (gr_set HGr.out 1 (.int .i64 (3 + (p : Int))) hq2')
          replace HW := Lib.hid (row_set (j := 1) (u := .int .i64 (3 + (p : Int))) HW.out HWQ.out)
          replace B_q : Hid ((w5.setCell ⟨q, 1, none⟩ (.int .i64 (3 + (p : Int)))).heap[q]? = some (.cells #[.int .i64 t0, .int .i64 (3 + (p : Int)), .int .i64 t2, .int .i64 t3] 25 (0, 0))) := B_q
          have e0 : (w5.setCell ⟨q, 1, none⟩ (.int .i64 (3 + (p : Int)))).cell? ⟨q, 0, none⟩ = some (.int .i64 t0) := box_cell B_q 0
          have e1 : (w5.setCell ⟨q, 1, none⟩ (.int .i64 (3 + (p : Int)))).cell? ⟨q, 1, none⟩ = some (.int .i64 (3 + (p : Int))) := box_cell B_q 1
          have e2 : (w5.setCell ⟨q, 1, none⟩ (.int .i64 (3 + (p : Int)))).cell? ⟨q, 2, none⟩ = some (.int .i64 t2) := box_cell B_q 2
          have e3 : (w5.setCell ⟨q, 1, none⟩ (.int .i64 (3 + (p : Int)))).cell? ⟨q, 3, none⟩ = some (.int .i64 t3) := box_cell B_q 3
          go_wp2_with fail
          clear k1 y1 e0 e1 e2 e3
          refine (specLP Bb acc.length cb acc t0 (3 + (p : Int)) t2 t3 _ rfl (by omega) (row_cap HW.out) (row_fm HW.out).2 (rd_of_row HW.out)).mono ?_
          rintro e w6 ⟨B2, d2, rfl, hr2, hbn⟩
          have hz6 := HGr.out.size
          replace HW := Lib.hid (row_below HW.out hbn)
          replace HR := Lib.hid (HR.out.below hbn)
          replace HGr := Lib.hid (HGr.out.trans (grown_of_below hbn))
          have HW2 := Lib.hid (row_mono hr2 hz6)
          have hl2 := put_bound' (l := acc) (e := ⟨t0, 3 + (p : Int), t2, t3⟩)
          clear hr2 hbn hz6 B_q
          generalize putV acc ⟨t0, 3 + (p : Int), t2, t3⟩ = P at *
          obtain ⟨acc2, ok⟩ := P
          dsimp only at hl2 HW2 ⊢
          cases ok with
          | true =>
            go_wp2_with fail
            go_roundw
            case rel => exact ⟨j - 1, acc2, by omega, by rw [hk1], by omega, ⟨_, _, rfl, HW2⟩, Lib.hid (HR.out.mono (by omega)), HGr⟩
            case measure => simp [intOf]; omega
          | false =>
            go_wp2_with fail
            go_roundw
            case rel => exact ⟨j - 1, acc, by omega, by rw [hk1], by omega, ⟨_, _, rfl, HW⟩, Lib.hid (HR.out.mono (by omega)), HGr⟩
            case measure => simp [intOf]; omega
        · have hk0 : j = 0 := by omega
          subst hk0
          go_wp2_with fail
          refine (oddC R _ 5 _ HR.out (by omega) (by omega) (by omega)).mono ?_
          rintro e w4 ⟨bb, rfl, hR, hg⟩
          replace HW := Lib.hid (row_dr HW.out hg HL.out)
          replace HR := Lib.hid hR
          replace HGr := Lib.hid (HGr.out.trans hg)
          clear hR hg
          cases bb with
          | false =>
            go_wp2_with fail
            exact bodyPost_ret (v := .tuple #[.slice B l.length c2, .slice Bb acc.length cb]) (by simp [results, Tryd.results22, go_sem]) rfl ⟨l, acc, B, Bb, c2, cb, rfl, hl, by omega, hF, row_fm HW.out, (own_dr HO.out HGr.out hlt).mono (by omega), (row_own HW.out).mono (by omega), gr_below HG.out HGr.out hRw⟩
          | true =>
            go_wp2_with fail
            refine (drLog R _ 9 _ HR.out (by omega) (by omega) (by omega)).mono ?_
            rintro e w5 ⟨l2, B2, c3, rfl, hl2, hF2, ho2, hR, hg⟩
            have hz5 := HGr.out.size
            replace HGr := Lib.hid (HGr.out.trans hg)
            have HO2 := Lib.hid (ho2.mono (show w.heap.size ≤ _ by omega))
            clear hR hg ho2 HR HW
            go_wp2_with fail
            exact bodyPost_ret (v := .tuple #[.slice B l.length c2, .slice B2 l2.length c3]) (by simp [results, Tryd.results22, go_sem]) rfl ⟨l, l2, B, B2, c2, c3, rfl, hl, by omega, hF, hF2, (own_dr HO.out HGr.out hlt).mono (by omega), HO2.out, gr_below HG.out HGr.out hRw⟩
end Go.Proofs.YtdlphgknplomkaaDoor
