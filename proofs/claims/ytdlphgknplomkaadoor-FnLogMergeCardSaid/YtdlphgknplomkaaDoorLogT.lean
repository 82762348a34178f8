/- Contracts of LogBetween, of the reference and of the program. No statement is proved here. -/
import Derived.Test.YtdlphgknplomkaaDoorLogV
import Derived.Test.YtdlphgknplomkaaDoorSnEntry2
namespace Go.Proofs.YtdlphgknplomkaaDoor
open Go.RowKit

def inT (lo hi : Int) (e : Entry) : Bool := decide (lo ≤ e.fTime) && decide (e.fTime < hi)
def btTo (l : List Entry) (lo hi : Int) (k : Nat) : List Entry := (l.take k).filter (inT lo hi)
def bt (l : List Entry) (lo hi : Int) : List Entry := if logB l then l.filter (inT lo hi) else []
theorem btTo_succ (l : List Entry) (lo hi : Int) (k : Nat) (h : k < l.length) : btTo l lo hi (k + 1) = btTo l lo hi k ++ (if inT lo hi (l.getD k Entry.zero) then [l.getD k Entry.zero] else []) := by
  unfold btTo
  rw [List.take_succ_eq_append_getElem h, List.filter_append]
  simp [h, List.filter_cons]
theorem btTo_all (l : List Entry) (lo hi : Int) : btTo l lo hi l.length = l.filter (inT lo hi) := by unfold btTo; rw [List.take_length]
theorem btTo_le (l : List Entry) (lo hi : Int) (k : Nat) : (btTo l lo hi k).length ≤ k := by
  unfold btTo
  exact Nat.le_trans (List.length_filter_le _ _) (List.length_take_le _ _)
theorem log_len {l : List Entry} (h : logB l = true) : l.length ≤ 16 := by simpa using (Bool.and_eq_true_iff.1 h).2
theorem bt_len (l : List Entry) (lo hi : Int) : (bt l lo hi).length ≤ 1048576 := by
  unfold bt; split
  · next h => have := log_len h; have := List.length_filter_le (inT lo hi) l; omega
  · simp

set_option maxHeartbeats 2000000 in
theorem specLT_ok (A : Option Addr) (n c : Nat) (l : List Entry) (lo hi : Int) (w : World) (hn : l.length = n) (hA : Rd w A (flatEntry l)) (hv : logB l = true) :
    Calls Tryd.prog 32 #[.slice A n c, .int .i64 lo, .int .i64 hi] w (RetS 25 4 (flatEntry (btTo l lo hi n)) (btTo l lo hi n).length w) := by
  have hn16 := log_len hv
  have HA := Lib.hid hA; clear hA
  have HN := Lib.hid hn
  have hm : n ≤ 16 := by omega
  clear hn hn16
  obtain ⟨i0, hi0, hz0, hz1, hz2⟩ := info_parts info_Entry
  have HI := Lib.hid (And.intro hi0 (And.intro hz0 (And.intro hz1 hz2))); clear hi0 hz0 hz1 hz2
  go_enter Tryd.func32, Tryd.ntmps32
  go_wp2_with fail
  have hown0 : (w.alloc (Obj.cells #[] 25)).ownsRow w.heap.size 25 4 (.slice (some ⟨w.heap.size, 0, none⟩) 0 0) 0 [] :=
    World.ownsRow_lit w #[] 0 (Nat.le_refl _) (Nat.zero_le _) rfl
  have hb0 : Below w.heap.size w (w.alloc (Obj.cells #[] 25)) := allocB (Below.refl _ _) _
  go_loopw [7, 8] (fun v i wr => ∃ k : Nat, k ≤ n ∧ i = .int .i64 k ∧ (∃ B c', v = .slice B (btTo l lo hi k).length c' ∧ wr.ownsRow w.heap.size 25 4 (.slice B (btTo l lo hi k).length c') (btTo l lo hi k).length (flatEntry (btTo l lo hi k))) ∧ Below w.heap.size w wr) (fun _ i _ => n - (intOf i).toNat)
  case atStart => exact ⟨0, by omega, rfl, ⟨_, _, rfl, hown0⟩, hb0⟩
  case round =>
    clear hown0 hb0
    obtain ⟨k, hk, rfl, ⟨B, c', rfl, hown⟩, hbw⟩ := hrel
    by_cases hlt : k < n
    · have hlen := btTo_le l lo hi k
      have HS := Lib.hid (btTo_succ l lo hi k (by have := HN.out; omega))
      generalize btTo l lo hi k = acc at *
      go_wp2_with fail
      refine (specLV _ _ _ l _ HN.out (by omega) (HA.out.below hbw)).mono ?_
      rintro e w2 ⟨rfl, hb2⟩
      have hown2 := row_below hown hb2
      have hbw2 := hbw.trans (hb2.mono hbw.size)
      clear hbw hown hb2
      obtain ⟨b, o, rfl, hbl, hc0, hc1, hc2, hc3⟩ := (HA.out.below hbw2).atEntry (k := k) (by have := HN.out; omega)
      generalize l.getD k Entry.zero = r at *
      obtain ⟨t, u, v, x⟩ := r
      by_cases h1 : lo ≤ t
      · by_cases h2 : t < hi
        · have HE : Hid (btTo l lo hi (k + 1) = acc ++ [⟨t, u, v, x⟩]) := by
            rw [Hid, HS.out, if_pos (by simp [inT, h1, h2])]
          clear HS
          go_wp2_with (at_builtin; refine wpList_app1 w2 rfl _ _ _ rfl w.heap.size 25 i0 _ 4 32 Tryd.underlying23 HI.out rfl (by omega) (.slice B acc.length c') acc.length (flatEntry acc) rfl hown2 #[.int .i64 t, .int .i64 u, .int .i64 v, .int .i64 x] rfl rfl (by simp [Value.oneCell']) (by omega) (by omega) hbw2.size ?_; intro v' w3 hown3 hg3)
          have hbw3 := row_alloc_grown hbw2 rfl hown2 hg3
          clear hbw2 hown2 hg3
          go_roundw
          case rel => exact ⟨k + 1, by omega, by go_num, snocEntry (r := ⟨t, u, v, x⟩) hown3 HE.out, hbw3⟩
          case measure => simp [intOf]; omega
        · have HE : Hid (btTo l lo hi (k + 1) = acc) := by
            rw [Hid, HS.out, if_neg (by simp [inT, h2]), List.append_nil]
          clear HS
          go_wp2_with fail
          go_roundw
          case rel => exact ⟨k + 1, by omega, by go_num, by rw [HE.out]; exact ⟨_, _, rfl, hown2⟩, hbw2⟩
          case measure => simp [intOf]; omega
      · have HE : Hid (btTo l lo hi (k + 1) = acc) := by
          rw [Hid, HS.out, if_neg (by simp [inT, h1]), List.append_nil]
        clear HS
        go_wp2_with fail
        go_roundw
        case rel => exact ⟨k + 1, by omega, by go_num, by rw [HE.out]; exact ⟨_, _, rfl, hown2⟩, hbw2⟩
        case measure => simp [intOf]; omega
    · go_wp2_with fail
      go_ret
      have hkn : k = n := by omega
      subst hkn
      obtain ⟨B', c2, e, ho⟩ := own_of_row hown
      cases e
      exact ⟨_, _, rfl, ho, hbw⟩

set_option maxHeartbeats 2000000 in
theorem specLT (A : Option Addr) (n c : Nat) (l : List Entry) (lo hi : Int) (w : World) (hn : l.length = n) (hm : n ≤ 1048576) (hA : Rd w A (flatEntry l)) :
    Calls Tryd.prog 32 #[.slice A n c, .int .i64 lo, .int .i64 hi] w (RetS 25 4 (flatEntry (bt l lo hi)) (bt l lo hi).length w) := by
  cases hv : logB l with
  | true =>
    have := specLT_ok A n c l lo hi w hn hA hv
    rw [bt, hv, if_pos rfl, ← btTo_all, hn]
    exact this
  | false =>
    rw [bt, hv]
    have HA := Lib.hid hA; clear hA
    have HN := Lib.hid hn; clear hn
    by_cases h0 : n ≤ 0
    · go_enter Tryd.func32, Tryd.ntmps32
      go_wp2_with fail
      refine wp_loop_rounds 1 ?_
      rw [rounds_succ]
      go_wp2_with fail
      go_ret
      exact ⟨_, _, rfl, Own.nil, allocB (Below.refl _ _) _⟩
    · go_enter Tryd.func32, Tryd.ntmps32
      go_wp2_with fail
      refine wp_loop_rounds 1 ?_
      rw [rounds_succ]
      go_wp2_with fail
      refine (specLV _ _ _ l _ HN.out hm (HA.out.below (allocB (Below.refl _ _) _))).mono ?_
      rintro e w2 ⟨rfl, hb2⟩
      go_wp2_with fail
      go_ret
      exact ⟨_, _, rfl, Own.nil, seqB (allocB (Below.refl _ _) _) hb2⟩

/-- the call returns a row of its own -/
def RetRow (E : TypeId) (size : Nat) (cs : List Value) (n : Nat) (w : World) (e : Ending) (w' : World) : Prop :=
  ∃ B c, e = .returned (.slice B n c) ∧ w'.ownsRow w.heap.size E size (.slice B n c) n cs ∧ Below w.heap.size w w'
theorem RetRow.rets {E : TypeId} {size : Nat} {cs : List Value} {n : Nat} {w : World} {e : Ending} {w' : World} (h : RetRow E size cs n w e w') : RetS E size cs n w e w' := by
  obtain ⟨B, c, h1, h2, h3⟩ := h
  obtain ⟨B', c', e', ho⟩ := own_of_row h2
  cases e'
  exact ⟨_, _, h1, ho, h3⟩
theorem row_zero {w : World} {base : Nat} {E : TypeId} {size : Nat} : w.ownsRow base E size (.slice none 0 0) 0 [] := ⟨by simp, .inl ⟨rfl, rfl⟩⟩
theorem row_mono {w : World} {base base' : Nat} {E : TypeId} {size n : Nat} {v : Value} {cs : List Value} (h : w.ownsRow base E size v n cs) (hb : base' ≤ base) : w.ownsRow base' E size v n cs := by
  obtain ⟨h1, h2⟩ := h
  refine ⟨h1, ?_⟩
  rcases h2 with ⟨e1, e2⟩ | ⟨g, cap, cur, e, hge, h3⟩
  · exact .inl ⟨e1, e2⟩
  · exact .inr ⟨g, cap, cur, e, Nat.le_trans hb hge, h3⟩
theorem row_cap {w : World} {base n c : Nat} {E : TypeId} {size : Nat} {B : Option Addr} {cs : List Value} (h : w.ownsRow base E size (.slice B n c) n cs) : n ≤ c := by
  rcases h.2 with ⟨e, rfl⟩ | ⟨g, cap, cur, e, hge, hg, hn, hr⟩
  · omega
  · cases e; exact hn
theorem row_none {w : World} {base n c : Nat} {E : TypeId} {size : Nat} {B : Option Addr} {cs : List Value} (h : w.ownsRow base E size (.slice B n c) n cs) : B = none → n = 0 ∧ c = 0 := by
  intro e
  rcases h.2 with ⟨e1, e2⟩ | ⟨g, cap, cur, e1, _⟩
  · cases e1; exact ⟨rfl, rfl⟩
  · cases e1; cases e

set_option maxHeartbeats 2000000 in
theorem implLTr_ok (A : Option Addr) (n c : Nat) (l : List Entry) (lo hi : Int) (w : World) (hn : l.length = n) (hA : Rd w A (flatEntry l)) (hcap : n ≤ c) (hv : logB l = true) :
    Calls Tryd.prog 31 #[.slice A n c, .int .i64 lo, .int .i64 hi] w (RetRow 25 4 (flatEntry (btTo l lo hi n)) (btTo l lo hi n).length w) := by
  have hn16 := log_len hv
  have HA := Lib.hid hA; clear hA
  have HN := Lib.hid hn
  have hm : n ≤ 16 := by omega
  clear hn hn16
  obtain ⟨i0, hi0, hz0, hz1, hz2⟩ := info_parts info_Entry
  have HI := Lib.hid (And.intro hi0 (And.intro hz0 (And.intro hz1 hz2))); clear hi0 hz0 hz1 hz2
  go_enter Tryd.func31, Tryd.ntmps31
  go_wp2_with fail
  refine (implLV _ _ _ l _ HN.out (by omega) HA.out hcap).mono ?_
  rintro e w1 ⟨rfl, hb0⟩
  have hown0 : w1.ownsRow w.heap.size 25 4 (.slice none 0 0) 0 [] := ⟨by simp, .inl ⟨rfl, rfl⟩⟩
  go_wp2_with fail
  go_loopw [7, 15] (fun v i wr => ∃ k : Nat, k ≤ n ∧ i = .int .i64 k ∧ (∃ B c', v = .slice B (btTo l lo hi k).length c' ∧ wr.ownsRow w.heap.size 25 4 (.slice B (btTo l lo hi k).length c') (btTo l lo hi k).length (flatEntry (btTo l lo hi k))) ∧ Below w.heap.size w wr) (fun _ i _ => n - (intOf i).toNat)
  case atStart => exact ⟨0, by omega, rfl, ⟨_, _, rfl, hown0⟩, hb0⟩
  case round =>
    clear hown0 hb0
    obtain ⟨k, hk, rfl, ⟨B, c', rfl, hown⟩, hbw⟩ := hrel
    by_cases hlt : k < n
    · have hlen := btTo_le l lo hi k
      have HS := Lib.hid (btTo_succ l lo hi k (by have := HN.out; omega))
      generalize btTo l lo hi k = acc at *
      obtain ⟨b, o, rfl, hbl, hc0, hc1, hc2, hc3⟩ := (HA.out.below hbw).atEntry (k := k) (by have := HN.out; omega)
      generalize l.getD k Entry.zero = r at *
      obtain ⟨t, u, v, x⟩ := r
      have hown2 := hown.alloc (Obj.cells #[.int .i64 t, .int .i64 u, .int .i64 v, .int .i64 x] 25)
      have hbw2 := allocB hbw (Obj.cells #[.int .i64 t, .int .i64 u, .int .i64 v, .int .i64 x] 25)
      by_cases h1 : lo ≤ t
      · by_cases h2 : t < hi
        · have HE : Hid (btTo l lo hi (k + 1) = acc ++ [⟨t, u, v, x⟩]) := by
            rw [Hid, HS.out, if_pos (by simp [inT, h1, h2])]
          clear HS
          go_wp2_with (at_builtin; refine wpList_app1g (wr.alloc (Obj.cells #[.int .i64 t, .int .i64 u, .int .i64 v, .int .i64 x] 25)) rfl _ _ _ rfl w.heap.size 25 i0 _ 4 32 Tryd.underlying23 HI.out rfl (by omega) (.slice B acc.length c') acc.length (flatEntry acc) rfl hown2 #[.int .i64 t, .int .i64 u, .int .i64 v, .int .i64 x] (wr.heap.size + 1) (by simp) rfl rfl (by simp [Value.oneCell']) (by omega) (by omega) hbw2.size ?_; intro v' w3 hown3 hg3)
          have hbw3 := row_alloc_grown hbw2 rfl hown2 hg3
          clear hbw2 hown2 hg3
          go_roundw
          case rel => exact ⟨k + 1, by omega, by go_num, snocEntry (r := ⟨t, u, v, x⟩) hown3 HE.out, hbw3⟩
          case measure => simp [intOf]; omega
        · have HE : Hid (btTo l lo hi (k + 1) = acc) := by
            rw [Hid, HS.out, if_neg (by simp [inT, h2]), List.append_nil]
          clear HS
          go_wp2_with fail
          go_roundw
          case rel => exact ⟨k + 1, by omega, by go_num, by rw [HE.out]; exact ⟨_, _, rfl, hown2⟩, hbw2⟩
          case measure => simp [intOf]; omega
      · have HE : Hid (btTo l lo hi (k + 1) = acc) := by
          rw [Hid, HS.out, if_neg (by simp [inT, h1]), List.append_nil]
        clear HS
        go_wp2_with fail
        go_roundw
        case rel => exact ⟨k + 1, by omega, by go_num, by rw [HE.out]; exact ⟨_, _, rfl, hown2⟩, hbw2⟩
        case measure => simp [intOf]; omega
    · go_wp2_with fail
      go_ret
      have hkn : k = n := by omega
      subst hkn
      exact ⟨_, _, rfl, hown, hbw⟩

set_option maxHeartbeats 2000000 in
theorem implLTr (A : Option Addr) (n c : Nat) (l : List Entry) (lo hi : Int) (w : World) (hn : l.length = n) (hm : n ≤ 1048576) (hA : Rd w A (flatEntry l)) (hcap : n ≤ c) :
    Calls Tryd.prog 31 #[.slice A n c, .int .i64 lo, .int .i64 hi] w (RetRow 25 4 (flatEntry (bt l lo hi)) (bt l lo hi).length w) := by
  cases hv : logB l with
  | true =>
    have := implLTr_ok A n c l lo hi w hn hA hcap hv
    rw [bt, hv, if_pos rfl, ← btTo_all, hn]
    exact this
  | false =>
    rw [bt, hv]
    have HA := Lib.hid hA; clear hA
    have HN := Lib.hid hn; clear hn
    go_enter Tryd.func31, Tryd.ntmps31
    go_wp2_with fail
    refine (implLV _ _ _ l _ HN.out hm HA.out hcap).mono ?_
    rintro e w2 ⟨rfl, hb2⟩
    go_wp2_with fail
    go_ret
    exact ⟨_, _, rfl, row_zero, hb2⟩
theorem implLT (A : Option Addr) (n c : Nat) (l : List Entry) (lo hi : Int) (w : World) (hn : l.length = n) (hm : n ≤ 1048576) (hA : Rd w A (flatEntry l)) (hcap : n ≤ c) :
    Calls Tryd.prog 31 #[.slice A n c, .int .i64 lo, .int .i64 hi] w (RetS 25 4 (flatEntry (bt l lo hi)) (bt l lo hi).length w) :=
  (implLTr A n c l lo hi w hn hm hA hcap).mono fun _ _ h => h.rets
end Go.Proofs.YtdlphgknplomkaaDoor
