/- Contracts of FrameBytes, of the reference and of the program. No statement is proved here. -/
import Derived.Test.YtddiloillgbneaaDoorFrmC
import Derived.Test.YtddiloillgbneaaDoorDrX
namespace Go.Proofs.YtddiloillgbneaaDoor
open Go.RowKit

theorem tmod256 {x : Int} (h : 0 ≤ x) : x.tmod 256 = x % 256 := Int.tmod_eq_emod_of_nonneg h

set_option maxHeartbeats 400000 in
theorem l26Sum_any (A : Option Addr) (n c : Nat) (l : List Int) (w : World) (hn : l.length = n) (hm : n ≤ 1048576) (hl : byteL l = true) (hA : Rd w A (ints l)) :
    Calls Tryd.prog 29 #[.slice A n c] w fun e w' => e = .returned (.int .i64 (sm l % 256)) ∧ w = w' := by
  have HA := Lib.hid hA; clear hA
  have HN := Lib.hid hn; clear hn
  have HL := Lib.hid hl; clear hl
  go_enter Tryd.func29, Tryd.ntmps29
  go_wp2_with fail
  go_loop [3, 4] (fun s i => ∃ k : Nat, k ≤ n ∧ i = .int .i64 k ∧ s = .int .i64 (sm (l.take k) % 256)) (fun _ i => n - (intOf i).toNat)
  case atStart => exact ⟨0, by omega, rfl, by simp [sm]⟩
  case round =>
    obtain ⟨k, hk, rfl, rfl⟩ := hrel
    by_cases hlt : k < n
    · obtain ⟨g, o, rfl, _, hck⟩ := HA.out.int (k := k) (by have := HN.out; omega)
      have HS := Lib.hid (sm_take_succ l k (by have := HN.out; omega))
      have hx := byteL_get l k HL.out
      have h0 : 0 ≤ sm (l.take k) % 256 ∧ sm (l.take k) % 256 < 256 := by omega
      generalize hS : sm (l.take k) % 256 = S at *
      have HSS := Lib.hid hS; clear hS
      generalize l.getD k 0 = x at *
      go_wp2_with fail
      go_round
      case rel =>
        refine ⟨k + 1, by omega, by go_num, ?_⟩
        have e1 : sm (l.take (k + 1)) % 256 = (S + x) % 256 := by rw [HS.out, ← HSS.out]; omega
        rw [e1, ← tmod256 (by omega)]
      case measure => simp [intOf]; omega
    · go_wp2_with fail
      go_ret
      refine ⟨ret_int ?_, rfl⟩
      rw [List.take_of_length_le (by have := HN.out; omega)]
theorem frmB_facts {a : Int} {b : List Int} (h : frmB a b = true) : 0 ≤ a ∧ a ≤ 255 ∧ b.length ≤ 12 ∧ byteL b = true ∧ frmBytes a b = frmOut a b := by
  have := (frmB_iff a b).1 h
  exact ⟨this.1.1, this.1.2, this.2.1, this.2.2, by rw [frmBytes, if_pos h]⟩
theorem byteL_inner {a : Int} {b : List Int} (h : frmB a b = true) : byteL ((b.length : Int) :: a :: b) = true := by
  have := (frmB_iff a b).1 h
  have h2 := this.2.2
  simp only [byteL, List.all_cons, Bool.and_eq_true, inB_iff] at h2 ⊢
  exact ⟨by omega, by omega, h2⟩
theorem ints_one (xs : List Int) : ∀ u ∈ ints xs, u.oneCell' = true := by
  intro u hu
  simp only [ints, List.mem_map] at hu
  obtain ⟨x, _, rfl⟩ := hu
  rfl
theorem ints_app (xs ys : List Int) : ints xs ++ ints ys = ints (xs ++ ys) := by simp [ints]

theorem lit104 (w2 : World) : (w2.alloc (.cells #[.int .i64 104] 3)).ownsRow w2.heap.size 3 1 (.slice (some ⟨w2.heap.size, 0, none⟩) 1 1) 1 (ints [104]) := by
  simpa [ints] using World.ownsRow_lit (e := 3) (size := 1) w2 #[.int .i64 104] 1 (Nat.le_refl _) (by unfold maxLen; omega) rfl
theorem row_nil {w : World} {base n c : Nat} {E : TypeId} {size : Nat} {B : Option Addr} {cs : List Value} (h : w.ownsRow base E size (.slice B n c) n cs) (hn : 0 < n) : B = none → n = 0 ∧ c = 0 := by
  intro e
  obtain ⟨g, e', _⟩ := (row_own h).form hn
  rw [e] at e'; cases e'
/-- the call returns a row of its own -/
def RetRow (E : TypeId) (size : Nat) (cs : List Value) (n : Nat) (w : World) (e : Ending) (w' : World) : Prop :=
  ∃ B c, e = .returned (.slice B n c) ∧ w'.ownsRow w.heap.size E size (.slice B n c) n cs ∧ Below w.heap.size w w'
theorem RetRow.rets {E : TypeId} {size : Nat} {cs : List Value} {n : Nat} {w : World} {e : Ending} {w' : World} (h : RetRow E size cs n w e w') : RetS E size cs n w e w' := by
  obtain ⟨B, c, h1, h2, h3⟩ := h
  exact ⟨B, c, h1, row_own h2, h3⟩
theorem row_mono {w : World} {base base' : Nat} {E : TypeId} {size n : Nat} {v : Value} {cs : List Value} (h : w.ownsRow base E size v n cs) (hb : base' ≤ base) : w.ownsRow base' E size v n cs := by
  obtain ⟨h1, h2⟩ := h
  refine ⟨h1, ?_⟩
  rcases h2 with ⟨e1, e2⟩ | ⟨g, cap, cur, e, hge, h3⟩
  · exact .inl ⟨e1, e2⟩
  · exact .inr ⟨g, cap, cur, e, Nat.le_trans hb hge, h3⟩
theorem row_zero {w : World} {base : Nat} {E : TypeId} {size : Nat} : w.ownsRow base E size (.slice none 0 0) 0 [] := ⟨by simp, .inl ⟨rfl, rfl⟩⟩
theorem row_cap {w : World} {base n c : Nat} {E : TypeId} {size : Nat} {B : Option Addr} {cs : List Value} (h : w.ownsRow base E size (.slice B n c) n cs) : n ≤ c := by
  rcases h.2 with ⟨e, rfl⟩ | ⟨g, cap, cur, e, hge, hg, hn, hr⟩
  · omega
  · cases e; exact hn
set_option maxHeartbeats 1000000 in
theorem implFBr (a : Int) (A : Option Addr) (n c : Nat) (b : List Int) (w : World) (hn : b.length = n) (hm : n ≤ 1048576) (hA : Rd w A (ints b)) :
    Calls Tryd.prog 12 #[.agg #[.int .i64 a, .slice A n c]] w (RetRow 3 1 (ints (frmBytes a b)) (frmBytes a b).length w) := by
  have HA := Lib.hid hA; clear hA
  have HN := Lib.hid hn; clear hn
  have hb : Below w.heap.size w (w.alloc (.cells #[.int .i64 a, .slice A n c] 25)) := allocB (Below.refl _ _) _
  have hbox : Hid ((w.alloc (.cells #[.int .i64 a, .slice A n c] 25)).heap[w.heap.size]? = some (.cells #[.int .i64 a, .slice A n c] 25 (0, 0))) := heap_alloc_new w _
  cases hv : frmB a b with
  | false =>
    have e : frmBytes a b = [] := by rw [frmBytes, hv]; rfl
    rw [e]; clear e
    go_enter Tryd.func12, Tryd.ntmps12
    go_wp2_with fail
    refine (implFV a A n c b _ HN.out hm (HA.out.below hb)).mono ?_
    rintro e w1 ⟨rfl, hbn⟩
    rw [hv]
    go_wp2_with fail
    go_ret
    exact ⟨_, _, rfl, row_zero, seqB hb hbn⟩
  | true =>
    obtain ⟨ha0, ha1, hl12, hbl, hfe⟩ := frmB_facts hv
    rw [hfe]
    have HV := Lib.hid hv; clear hv hfe
    have HBL := Lib.hid hbl; clear hbl
    have hn12 : n ≤ 12 := by have := HN.out; omega
    clear hl12
    obtain ⟨i0, hi0, hz0, hz1, hz2⟩ := info_parts info_int
    have HI := Lib.hid (And.intro hi0 (And.intro hz0 (And.intro hz1 hz2))); clear hi0 hz0 hz1 hz2
    go_enter Tryd.func12, Tryd.ntmps12
    go_wp2_with fail
    refine (implFV a A n c b _ HN.out hm (HA.out.below hb)).mono ?_
    rintro e w1 ⟨rfl, hbn⟩
    rw [HV.out]
    replace hbox := be_box hbox hbn
    replace hb := seqB hb hbn
    clear hbn
    obtain ⟨g0, g1⟩ := cells2 hbox.out
    have hown0 : (w1.alloc (.cells #[.int .i64 104, .int .i64 n, .int .i64 a] 3)).ownsRow w.heap.size 3 1 (.slice (some ⟨w1.heap.size, 0, none⟩) 3 3) 3 (ints ([104, (n : Int), a] ++ b.take 0)) := by
      simpa [ints] using World.ownsRow_lit (e := 3) (size := 1) w1 #[.int .i64 104, .int .i64 n, .int .i64 a] 3 hb.size (by unfold maxLen; omega) rfl
    have hb1 : Below w.heap.size w (w1.alloc (.cells #[.int .i64 104, .int .i64 n, .int .i64 a] 3)) := allocB hb _
    have g2 := keepC g1 (allocB (Below.refl w1.heap.size w1) (.cells #[.int .i64 104, .int .i64 n, .int .i64 a] 3))
    go_wp2_with fail
    clear g0 g1 g2 hbox hb
    go_loopw [3, 4, 25] (fun s v i wr => ∃ k : Nat, k ≤ n ∧ i = .int .i64 k ∧ s = .int .i64 (n + a + sm (b.take k)) ∧ (∃ B c', v = .slice B (3 + k) c' ∧ wr.ownsRow w.heap.size 3 1 (.slice B (3 + k) c') (3 + k) (ints ([104, (n : Int), a] ++ b.take k))) ∧ Below w.heap.size w wr) (fun _ _ i _ => n - (intOf i).toNat)
    case atStart => exact ⟨0, by omega, rfl, by simp [sm], ⟨_, _, rfl, hown0⟩, hb1⟩
    case round =>
      clear hown0 hb1
      obtain ⟨k, hk, rfl, rfl, ⟨B, c', rfl, hown⟩, hbw⟩ := hrel
      have hsm := sm_bytes (b.take k) (byteL_take b k HBL.out)
      have hsl : ((b.take k).length : Int) ≤ 12 := by simp; omega
      by_cases hlt : k < n
      · obtain ⟨g, o, rfl, _, hck⟩ := (HA.out.below hbw).int (k := k) (by have := HN.out; omega)
        have HS := Lib.hid (sm_take_succ b k (by have := HN.out; omega))
        have HT := Lib.hid (show b.take (k + 1) = b.take k ++ [b.getD k 0] by rw [List.take_succ_eq_append_getElem (by have := HN.out; omega)]; simp [show k < b.length by have := HN.out; omega])
        have hx := byteL_get b k HBL.out
        generalize hS : sm (b.take k) = S at *
        generalize b.getD k 0 = x at *
        generalize hacc : [104, (n : Int), a] ++ b.take k = acc at *
        have hal : acc.length = 3 + k := by rw [← hacc]; simp; have := HN.out; omega
        have HAC := Lib.hid hacc; have HAL := Lib.hid hal
        clear hacc hal hS
        go_wp2_with (at_builtin; refine wpList_app1 wr rfl _ _ _ rfl w.heap.size 3 i0 _ 1 8 Tryd.underlying23 HI.out rfl (by omega) (.slice B (3 + k) c') (3 + k) (ints acc) rfl hown #[.int .i64 x] rfl rfl (by simp [Value.oneCell']) (by omega) (by omega) hbw.size ?_; intro v' w3 hown3 hg3)
        have hbw3 := row_alloc_grown hbw rfl hown hg3
        clear hbw hown hg3
        obtain ⟨B2, d2, rfl, hr2⟩ := row_is (n' := 3 + (k + 1)) (cs' := ints ([104, (n : Int), a] ++ b.take (k + 1))) hown3 (by omega) (by rw [HT.out, ← List.append_assoc, HAC.out]; simp [ints])
        clear hown3
        go_roundw
        case rel => exact ⟨k + 1, by omega, by go_num, by rw [HS.out]; go_num, ⟨B2, d2, rfl, hr2⟩, hbw3⟩
        case measure => simp [intOf]; omega
      · have hkn : k = n := by omega
        subst hkn
        have hta : b.take k = b := List.take_of_length_le (by have := HN.out; omega)
        rw [hta] at hsm hown
        have HTA := Lib.hid hta; clear hta hsl
        generalize hS : sm (b.take k) = S at *
        have HSS := Lib.hid hS; clear hS
        go_wp2_with (at_builtin; refine wpList_appN (wr.alloc (.cells #[.int .i64 ((k + a + S).tmod 256), .int .i64 22] 3)) rfl _ _ _ rfl w.heap.size 3 i0 _ 1 8 Tryd.underlying23 HI.out rfl (by omega) _ (3 + k) _ rfl (hown.alloc _) (some ⟨wr.heap.size, 0, none⟩) 2 2 (ints [(k + a + S).tmod 256, 22]) rfl rfl (rd_new _ _ _) (fun e => by cases e) (ints_one _) (by omega) (by omega) (by have := hbw.size; simp; omega) ?_; intro v' w3 hown3 hg3)
        have hbw3 := grown_row (allocB hbw _) rfl (hown.alloc _) hg3
        clear hg3
        have e0 : (k : Int) + a + S = (b.length : Int) + a + sm b := by rw [← HSS.out, HTA.out, HN.out]
        obtain ⟨B2, d2, rfl, hr2⟩ := row_is (n' := (frmOut a b).length) (cs' := ints (frmOut a b)) hown3 (by rw [frmOut_len, HN.out]; omega) (by
          rw [ints_app, tmod256 (by omega), frmOut, frmSum, e0, HN.out]; simp)
        go_ret
        exact ⟨_, _, rfl, hr2, hbw3⟩
theorem implFB (a : Int) (A : Option Addr) (n c : Nat) (b : List Int) (w : World) (hn : b.length = n) (hm : n ≤ 1048576) (hA : Rd w A (ints b)) :
    Calls Tryd.prog 12 #[.agg #[.int .i64 a, .slice A n c]] w (RetS 3 1 (ints (frmBytes a b)) (frmBytes a b).length w) :=
  (implFBr a A n c b w hn hm hA).mono fun _ _ h => h.rets
set_option maxHeartbeats 1000000 in
theorem specFBr (a : Int) (A : Option Addr) (n c : Nat) (b : List Int) (w : World) (hn : b.length = n) (hm : n ≤ 1048576) (hA : Rd w A (ints b)) (hnil : A = none → n = 0 ∧ c = 0) :
    Calls Tryd.prog 14 #[.agg #[.int .i64 a, .slice A n c]] w (RetRow 3 1 (ints (frmBytes a b)) (frmBytes a b).length w) := by
  have HA := Lib.hid hA; clear hA
  have HN := Lib.hid hn; clear hn
  have HNIL := Lib.hid hnil; clear hnil
  have hb : Below w.heap.size w (w.alloc (.cells #[.int .i64 a, .slice A n c] 25)) := allocB (Below.refl _ _) _
  have hbox : Hid ((w.alloc (.cells #[.int .i64 a, .slice A n c] 25)).heap[w.heap.size]? = some (.cells #[.int .i64 a, .slice A n c] 25 (0, 0))) := heap_alloc_new w _
  cases hv : frmB a b with
  | false =>
    have e : frmBytes a b = [] := by rw [frmBytes, hv]; rfl
    rw [e]; clear e
    go_enter Tryd.func14, Tryd.ntmps14
    go_wp2_with fail
    refine (specFV a A n c b _ HN.out hm (HA.out.below hb)).mono ?_
    rintro e w1 ⟨rfl, hbn⟩
    rw [hv]
    go_wp2_with fail
    go_ret
    exact ⟨_, _, rfl, World.ownsRow_lit w1 #[] 0 (seqB hb hbn).size (Nat.zero_le _) rfl, allocB (seqB hb hbn) _⟩
  | true =>
    obtain ⟨ha0, ha1, hl12, _, hfe⟩ := frmB_facts hv
    rw [hfe]
    have HV := Lib.hid hv; clear hv hfe
    have hn12 : n ≤ 12 := by have := HN.out; omega
    clear hl12
    obtain ⟨i0, hi0, hz0, hz1, hz2⟩ := info_parts info_int
    have HI := Lib.hid (And.intro hi0 (And.intro hz0 (And.intro hz1 hz2))); clear hi0 hz0 hz1 hz2
    go_enter Tryd.func14, Tryd.ntmps14
    go_wp2_with fail
    refine (specFV a A n c b _ HN.out hm (HA.out.below hb)).mono ?_
    rintro e w1 ⟨rfl, hbn⟩
    rw [HV.out]
    replace hbox := be_box hbox hbn
    replace hb := seqB hb hbn
    clear hbn
    obtain ⟨g0, g1⟩ := cells2 hbox.out
    have hown0 : (w1.alloc (.cells #[.int .i64 n, .int .i64 a] 3)).ownsRow w.heap.size 3 1 (.slice (some ⟨w1.heap.size, 0, none⟩) 2 2) 2 (ints [(n : Int), a]) := by
      simpa [ints] using World.ownsRow_lit (e := 3) (size := 1) w1 #[.int .i64 n, .int .i64 a] 2 hb.size (by unfold maxLen; omega) rfl
    have hb1 : Below w.heap.size w (w1.alloc (.cells #[.int .i64 n, .int .i64 a] 3)) := allocB hb _
    have g2 := keepC g1 (allocB (Below.refl w1.heap.size w1) (.cells #[.int .i64 n, .int .i64 a] 3))
    go_wp2_with (first | (at_builtin; refine wpList_appN (w1.alloc (.cells #[.int .i64 n, .int .i64 a] 3)) rfl _ _ _ rfl w.heap.size 3 i0 _ 1 8 Tryd.underlying23 HI.out rfl (by omega) _ 2 _ rfl hown0 A n c (ints b) rfl (by rw [ints_length, HN.out]; omega) (HA.out.below hb1) HNIL.out (ints_one _) (by omega) (by omega) (by have := hb1.size; omega) ?_; intro v2 w2 hown2 hg2; have hb2 := grown_row hb1 rfl hown0 hg2; clear hg2 hown0 hb1 g0 g1 g2 hbox hb; obtain ⟨B2, d2, rfl, hr2⟩ := row_is (n' := 2 + n) (cs' := ints ((n : Int) :: a :: b)) hown2 rfl (by simp [ints]); clear hown2; have hown0 := lit104 w2; have hrd2 := (rd_of_row hr2).below (allocB (Below.refl w2.heap.size w2) (.cells #[.int .i64 104] 3)); have hB2 : B2 = none → 2 + n = 0 ∧ d2 = 0 := row_nil hr2 (by omega)) | (at_builtin; refine wpList_appN (w2.alloc (.cells #[.int .i64 104] 3)) rfl _ _ _ rfl w2.heap.size 3 i0 _ 1 8 Tryd.underlying23 HI.out rfl (by omega) _ 1 _ rfl hown0 B2 (2 + n) d2 (ints ((n : Int) :: a :: b)) rfl (by rw [ints_length]; simp; have := HN.out; omega) hrd2 hB2 (ints_one _) (by omega) (by omega) (by simp) ?_; intro v3 w3 hown3 hg3; have hbx : Below w2.heap.size w2 w3 := grown_row (allocB (Below.refl _ _) _) rfl hown0 hg3; clear hg3 hown0 hrd2 hB2; have hrd3 := (rd_of_row hr2).below hbx; clear hr2; obtain ⟨B3, d3, rfl, hr3⟩ := row_is (n' := 3 + n) (cs' := ints (104 :: (n : Int) :: a :: b)) hown3 (by omega) (by simp [ints]); clear hown3))
    refine (l26Sum_any B2 (2 + n) d2 ((n : Int) :: a :: b) _ (by simp; have := HN.out; omega) (by omega) (by have := byteL_inner HV.out; rwa [HN.out] at this) hrd3).mono ?_
    rintro e w' ⟨rfl, rfl⟩
    have hss : sm ((n : Int) :: a :: b) % 256 = frmSum a b := by rw [frmSum, HN.out]; simp only [sm]; omega
    rw [hss]
    have HSS := Lib.hid hss; clear hss
    generalize hFS : frmSum a b = F
    have HFS := Lib.hid hFS; clear hFS
    go_wp2_with (at_builtin; refine wpList_appN (w3.alloc (.cells #[.int .i64 F, .int .i64 22] 3)) rfl _ _ _ rfl w2.heap.size 3 i0 _ 1 8 Tryd.underlying23 HI.out rfl (by omega) _ (3 + n) _ rfl (hr3.alloc _) (some ⟨w3.heap.size, 0, none⟩) 2 2 (ints [F, 22]) rfl rfl (rd_new _ _ _) (fun e => by cases e) (ints_one _) (by omega) (by omega) (by have := hbx.size; simp; omega) ?_; intro v4 w4 hown4 hg4)
    have hbx4 : Below w2.heap.size w2 w4 := grown_row (allocB hbx _) rfl (hr3.alloc _) hg4
    obtain ⟨B4, d4, rfl, hr4⟩ := row_is (n' := (frmOut a b).length) (cs' := ints (frmOut a b)) hown4 (by rw [frmOut_len, HN.out]; omega) (by
      rw [ints_app, frmOut, HFS.out, HN.out]; simp)
    go_ret
    exact ⟨_, _, rfl, row_mono hr4 hb2.size, seqB hb2 hbx4⟩
theorem specFB (a : Int) (A : Option Addr) (n c : Nat) (b : List Int) (w : World) (hn : b.length = n) (hm : n ≤ 1048576) (hA : Rd w A (ints b)) (hnil : A = none → n = 0 ∧ c = 0) :
    Calls Tryd.prog 14 #[.agg #[.int .i64 a, .slice A n c]] w (RetS 3 1 (ints (frmBytes a b)) (frmBytes a b).length w) :=
  (specFBr a A n c b w hn hm hA hnil).mono fun _ _ h => h.rets
end Go.Proofs.YtddiloillgbneaaDoor
