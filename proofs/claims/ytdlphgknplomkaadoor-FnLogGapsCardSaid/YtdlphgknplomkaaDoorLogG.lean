/- Contracts of LogGaps, of the reference and of the program. No statement is proved here. -/
import Derived.Test.YtdlphgknplomkaaDoorLogT
namespace Go.Proofs.YtdlphgknplomkaaDoor
open Go.RowKit

/-- the greatest number of a station among the first k entries -/
def mostTo (l : List Entry) (who : Int) : Nat → Int
  | 0 => 0
  | k + 1 => if (eAt l k).fWho == who then (if mostTo l who k < (eAt l k).fNumber then (eAt l k).fNumber else mostTo l who k) else mostTo l who k
/-- the missing numbers among 1 .. k -/
def gapsTo (l : List Entry) (who : Int) (k : Nat) : List Int := (((List.range k).map fun (j : Nat) => (j : Int) + 1).filter fun n => decide (findI l who n < 0))
def gaps (l : List Entry) (who : Int) : List Int := if logB l then gapsTo l who ((mostTo l who l.length).toNat - 1) else []
theorem gapsTo_succ (l : List Entry) (who : Int) (k : Nat) : gapsTo l who (k + 1) = gapsTo l who k ++ (if decide (findI l who ((k : Int) + 1) < 0) then [(k : Int) + 1] else []) := by
  unfold gapsTo
  rw [List.range_succ, List.map_append, List.filter_append]
  simp [List.filter_cons]
theorem gapsTo_le (l : List Entry) (who : Int) (k : Nat) : (gapsTo l who k).length ≤ k := by
  unfold gapsTo
  exact Nat.le_trans (List.length_filter_le _ _) (by simp)
theorem log_at {l : List Entry} (h : logB l = true) {k : Nat} (hk : k < l.length) : logOk l k = true := by
  have := (Bool.and_eq_true_iff.1 h).1
  rw [List.all_eq_true] at this
  exact this k (by simpa using hk)
theorem log_okE {l : List Entry} (h : logB l = true) {k : Nat} (hk : k < l.length) : okE (eAt l k) = true := (Bool.and_eq_true_iff.1 (Bool.and_eq_true_iff.1 (log_at h hk)).1).1
theorem okE_num {e : Entry} (h : okE e = true) : 1 ≤ e.fNumber ∧ e.fNumber ≤ 99 := by
  unfold okE at h
  simp only [Bool.and_eq_true, inB_iff] at h
  exact h.1.2
theorem mostTo_bd {l : List Entry} (h : logB l = true) (who : Int) (k : Nat) (hk : k ≤ l.length) : 0 ≤ mostTo l who k ∧ mostTo l who k ≤ 99 := by
  induction k with
  | zero => simp [mostTo]
  | succ k ih =>
    have a := ih (by omega)
    have b := okE_num (log_okE h (k := k) (by omega))
    rw [mostTo]; split
    · split <;> omega
    · exact a
theorem gaps_le (l : List Entry) (who : Int) : (gaps l who).length ≤ 1048576 := by
  unfold gaps; split
  · next h => have := gapsTo_le l who ((mostTo l who l.length).toNat - 1); have := mostTo_bd h who l.length (Nat.le_refl _); omega
  · simp

set_option maxHeartbeats 2000000 in
theorem specLG_ok (A : Option Addr) (n c : Nat) (l : List Entry) (who : Int) (w : World) (hn : l.length = n) (hA : Rd w A (flatEntry l)) (hv : logB l = true) :
    Calls Tryd.prog 19 #[.slice A n c, .int .i64 who] w (RetS 3 1 (ints (gapsTo l who ((mostTo l who n).toNat - 1))) (gapsTo l who ((mostTo l who n).toNat - 1)).length w) := by
  have hn16 := log_len hv
  have HA := Lib.hid hA; clear hA
  have HN := Lib.hid hn
  have hm : n ≤ 16 := by omega
  have HB := Lib.hid (fun k hk => mostTo_bd hv who k (hn ▸ hk : k ≤ l.length))
  clear hn hn16
  obtain ⟨i0, hi0, hz0, hz1, hz2⟩ := info_parts info_int
  have HI := Lib.hid (And.intro hi0 (And.intro hz0 (And.intro hz1 hz2))); clear hi0 hz0 hz1 hz2
  go_enter Tryd.func19, Tryd.ntmps19
  go_wp2_with fail
  refine (specLV _ _ _ l _ HN.out (by omega) (HA.out.below (allocB (Below.refl _ _) _))).mono ?_
  rintro e w1 ⟨rfl, hb1⟩
  have hown0 : w1.ownsRow w.heap.size 3 1 (.slice (some ⟨w.heap.size, 0, none⟩) 0 0) 0 [] := row_below (World.ownsRow_lit w #[] 0 (Nat.le_refl _) (Nat.zero_le _) rfl) hb1
  have hb0 : Below w.heap.size w w1 := seqB (allocB (Below.refl _ _) _) hb1
  clear hb1
  go_wp2_with fail
  go_loop [6, 7] (fun x i => ∃ k : Nat, k ≤ n ∧ i = .int .i64 k ∧ x = .int .i64 (mostTo l who k)) (fun _ i => n - (intOf i).toNat)
  case atStart => exact ⟨0, by omega, rfl, rfl⟩
  case round =>
    obtain ⟨k, hk, rfl, rfl⟩ := hrel
    by_cases hlt : k < n
    · obtain ⟨b, o, rfl, hbl, hc0, hc1, hc2, hc3⟩ := (HA.out.below hb0).atEntry (k := k) (by have := HN.out; omega)
      have HS : Hid (mostTo l who (k + 1) = if (l.getD k Entry.zero).fWho == who then (if mostTo l who k < (l.getD k Entry.zero).fNumber then (l.getD k Entry.zero).fNumber else mostTo l who k) else mostTo l who k) := rfl
      clear hc0 hc3
      generalize l.getD k Entry.zero = r at *
      generalize mostTo l who k = y at *
      cases h1 : (r.fWho == who) with
      | false =>
        go_wp2_with fail
        go_round
        case rel => exact ⟨k + 1, by omega, by go_num, by rw [HS.out, h1]; rfl⟩
        case measure => simp [intOf]; omega
      | true =>
        by_cases h2 : y < r.fNumber
        · go_wp2_with fail
          go_round
          case rel => exact ⟨k + 1, by omega, by go_num, by rw [HS.out, h1, if_pos rfl, if_pos h2]⟩
          case measure => simp [intOf]; omega
        · go_wp2_with fail
          go_round
          case rel => exact ⟨k + 1, by omega, by go_num, by rw [HS.out, h1, if_pos rfl, if_neg (by omega)]⟩
          case measure => simp [intOf]; omega
    · have hkn : k = n := by omega
      subst hkn
      obtain ⟨hy0, hy1⟩ := HB.out k (Nat.le_refl _)
      clear hlt hk
      generalize mostTo l who k = y at *
      go_wp2_with fail
      go_loopw [5, 8] (fun v i wr => ∃ j : Nat, (j = 0 ∨ (j : Int) + 1 ≤ y) ∧ i = .int .i64 ((j : Int) + 1) ∧ (∃ B c', v = .slice B (gapsTo l who j).length c' ∧ wr.ownsRow w.heap.size 3 1 (.slice B (gapsTo l who j).length c') (gapsTo l who j).length (ints (gapsTo l who j))) ∧ Below w.heap.size w wr) (fun _ i _ => (100 - intOf i).toNat)
      case atStart => exact ⟨0, .inl rfl, by go_num, ⟨_, _, rfl, hown0⟩, hb0⟩
      case round =>
        clear hown0 hb0
        obtain ⟨j, hj, rfl, ⟨B, c', rfl, hown⟩, hbw⟩ := hrel
        by_cases hlt : (j : Int) + 1 < y
        · have hlen := gapsTo_le l who j
          have HS := Lib.hid (gapsTo_succ l who j)
          have HA2 := Lib.hid (HA.out.below hbw)
          generalize gapsTo l who j = acc at *
          cases hf : decide (findI l who ((j : Int) + 1) < 0) with
          | true =>
            have HE : Hid (gapsTo l who (j + 1) = acc ++ [(j : Int) + 1]) := by rw [Hid, HS.out, hf]; rfl
            clear HS
            go_wp2_with (first | (go_at_call 43; refine (specFind _ _ _ l _ _ _ HN.out (by omega) HA2.out).mono ?_; rintro e w' ⟨rfl, rfl⟩) | (at_builtin; refine wpList_app1 wr rfl _ _ _ rfl w.heap.size 3 i0 _ 1 8 Tryd.underlying37 HI.out rfl (by omega) (.slice B acc.length c') acc.length (ints acc) rfl hown #[.int .i64 ((j : Int) + 1)] rfl rfl (by simp [Value.oneCell']) (by omega) (by omega) hbw.size ?_; intro v' w3 hown3 hg3))
            have hbw3 := row_alloc_grown hbw rfl hown hg3
            clear hbw hown hg3
            go_roundw
            case rel => exact ⟨j + 1, .inr (by omega), by go_num, snoc_ints hown3 HE.out, hbw3⟩
            case measure => simp [intOf]; omega
          | false =>
            have HE : Hid (gapsTo l who (j + 1) = acc) := by rw [Hid, HS.out, hf]; simp
            clear HS
            go_wp2_with (go_at_call 43; refine (specFind _ _ _ l _ _ _ HN.out (by omega) HA2.out).mono ?_; rintro e w' ⟨rfl, rfl⟩)
            go_roundw
            case rel => exact ⟨j + 1, .inr (by omega), by go_num, by rw [HE.out]; exact ⟨_, _, rfl, hown⟩, hbw⟩
            case measure => simp [intOf]; omega
        · go_wp2_with fail
          go_ret
          have e : y.toNat - 1 = j := by omega
          rw [e]
          obtain ⟨B', c2, e, ho⟩ := own_of_row hown
          cases e
          exact ⟨_, _, rfl, ho, hbw⟩

set_option maxHeartbeats 2000000 in
theorem specLG (A : Option Addr) (n c : Nat) (l : List Entry) (who : Int) (w : World) (hn : l.length = n) (hm : n ≤ 1048576) (hA : Rd w A (flatEntry l)) :
    Calls Tryd.prog 19 #[.slice A n c, .int .i64 who] w (RetS 3 1 (ints (gaps l who)) (gaps l who).length w) := by
  cases hv : logB l with
  | true =>
    have := specLG_ok A n c l who w hn hA hv
    rw [gaps, hv, if_pos rfl, hn]
    exact this
  | false =>
    rw [gaps, hv]
    have HA := Lib.hid hA; clear hA
    have HN := Lib.hid hn; clear hn
    go_enter Tryd.func19, Tryd.ntmps19
    go_wp2_with fail
    refine (specLV _ _ _ l _ HN.out hm (HA.out.below (allocB (Below.refl _ _) _))).mono ?_
    rintro e w1 ⟨rfl, hb1⟩
    go_wp2_with fail
    go_ret
    exact ⟨_, _, rfl, Own.nil, seqB (allocB (Below.refl _ _) _) hb1⟩

/-- has the station the number among the first k entries -/
def hasTo (l : List Entry) (who : Int) (k : Nat) (num : Int) : Bool := (List.range k).any fun j => sameB (eAt l j) who num
theorem hasTo_succ (l : List Entry) (who : Int) (k : Nat) (num : Int) : hasTo l who (k + 1) num = (hasTo l who k num || sameB (eAt l k) who num) := by
  unfold hasTo; rw [List.range_succ, List.any_append]; simp
theorem hasTo_find (l : List Entry) (who num : Int) : decide (findI l who num < 0) = !hasTo l who l.length num := by
  cases hh : hasTo l who l.length num with
  | true =>
    rw [hasTo, List.any_eq_true] at hh
    obtain ⟨j, hj, hs⟩ := hh
    unfold findI
    cases hf : (List.range l.length).find? fun j => sameB (eAt l j) who num with
    | none =>
      rw [List.find?_eq_none] at hf
      exact absurd hs (hf j hj)
    | some i => exact decide_eq_false (by show ¬ (i : Int) < 0; omega)
  | false =>
    rw [hasTo, List.any_eq_false] at hh
    rw [findI_none fun j hj => by simpa using hh j (by simpa using hj)]
    rfl

def fals : Array Value := Array.replicate 100 (.bool false)
theorem zero_has (w : World) : (zeroValue 73).run Tryd.prog w = .ok (.agg fals) w := by kernel_rfl
/-- block H holds, for each number, whether it is there -/
def HasB (w : World) (H : Nat) (f : Int → Bool) : Prop := ∃ cs : Array Value, w.heap[H]? = some (.cells cs 73 (0, 0)) ∧ cs.size = 100 ∧ ∀ i : Nat, i < 100 → cs[i]? = some (.bool (f i))
theorem HasB.cell {w : World} {H : Nat} {f : Int → Bool} (h : HasB w H f) {i : Nat} (hi : i < 100) : w.cell? ⟨H, i, none⟩ = some (.bool (f i)) := by
  obtain ⟨cs, h1, _, h3⟩ := h
  rw [cell_of_row w H i cs _ (0, 0) h1]; exact h3 i hi
theorem HasB.frozen {w : World} {H : Nat} {f : Int → Bool} (h : HasB w H f) (i : Nat) : w.frozen? ⟨H, i, none⟩ = false := by
  obtain ⟨cs, h1, _, _⟩ := h
  exact frozen_of_row w H i cs _ h1
theorem HasB.lt {w : World} {H : Nat} {f : Int → Bool} (h : HasB w H f) : H < w.heap.size := by
  obtain ⟨cs, h1, _, _⟩ := h
  rcases Nat.lt_or_ge H w.heap.size with hlt | hge
  · exact hlt
  · rw [Array.getElem?_eq_none hge] at h1; cases h1
theorem HasB.alloc {w : World} {H : Nat} {f : Int → Bool} (h : HasB w H f) (o : Obj) : HasB (w.alloc o) H f := by
  have hl := h.lt
  obtain ⟨cs, h1, h2, h3⟩ := h
  exact ⟨cs, (Below.heap_alloc w o H hl).trans h1, h2, h3⟩
theorem HasB.set {w : World} {H : Nat} {f g : Int → Bool} (h : HasB w H f) {i : Nat} (hi : i < 100) (hg : ∀ j : Nat, j < 100 → g j = if j = i then true else f j) : HasB (w.setCell ⟨H, i, none⟩ (.bool true)) H g := by
  obtain ⟨cs, h1, h2, h3⟩ := h
  refine ⟨cs.setIfInBounds i (.bool true), heap_setCell_same w H i cs _ _ h1, by simpa using h2, fun j hj => ?_⟩
  rw [Array.getElem?_setIfInBounds, hg j hj]
  by_cases e : i = j
  · subst e; simp [h2, hi]
  · rw [if_neg e, if_neg (Ne.symm e)]; exact h3 j hj
theorem HasB.congr {w : World} {H : Nat} {f g : Int → Bool} (h : HasB w H f) (e : ∀ j : Nat, j < 100 → g j = f j) : HasB w H g := by
  obtain ⟨cs, h1, h2, h3⟩ := h
  exact ⟨cs, h1, h2, fun i hi => by rw [e i hi]; exact h3 i hi⟩
theorem HasB.grown {w w' : World} {H : Nat} {f : Int → Bool} {row : Option Nat} (h : HasB w H f) (hg : w.grownBy w' row) (hne : some H ≠ row) : HasB w' H f := by
  have hl := h.lt
  obtain ⟨cs, h1, h2, h3⟩ := h
  exact ⟨cs, (hg.block H hl hne).trans h1, h2, h3⟩
set_option maxHeartbeats 2000000 in
theorem implLG_ok (A : Option Addr) (n c : Nat) (l : List Entry) (who : Int) (w : World) (hn : l.length = n) (hA : Rd w A (flatEntry l)) (hcap : n ≤ c) (hv : logB l = true) :
    Calls Tryd.prog 17 #[.slice A n c, .int .i64 who] w (RetS 3 1 (ints (gapsTo l who ((mostTo l who n).toNat - 1))) (gapsTo l who ((mostTo l who n).toNat - 1)).length w) := by
  have hn16 := log_len hv
  have HA := Lib.hid hA; clear hA
  have HN := Lib.hid hn
  have hm : n ≤ 16 := by omega
  have HB := Lib.hid (fun k hk => mostTo_bd hv who k (hn ▸ hk : k ≤ l.length))
  clear hn hn16
  obtain ⟨i0, hi0, hz0, hz1, hz2⟩ := info_parts info_int
  have HI := Lib.hid (And.intro hi0 (And.intro hz0 (And.intro hz1 hz2))); clear hi0 hz0 hz1 hz2
  have hzz := zero_has
  go_enter Tryd.func17, Tryd.ntmps17
  go_wp2_with fail
  refine (implLV _ _ _ l _ HN.out (by omega) HA.out hcap).mono ?_
  rintro e w1 ⟨rfl, hb1⟩
  go_wp2_with fail
  clear hzz
  have hhas : HasB (w1.alloc (.cells fals 73)) w1.heap.size (hasTo l who 0) := ⟨fals, heap_alloc_new w1 _, by simp [fals], fun i hi => by simp [fals, hasTo, hi]⟩
  have hb2 := allocB hb1 (.cells fals 73)
  have hHge := hb1.size
  clear hb1
  generalize w1.alloc (.cells fals 73) = w2 at *
  generalize w1.heap.size = H at *
  go_loopw [6, 16] (fun x i wr => ∃ k : Nat, k ≤ n ∧ i = .int .i64 k ∧ x = .int .i64 (mostTo l who k) ∧ HasB wr H (hasTo l who k) ∧ Below w.heap.size w wr) (fun _ i _ => n - (intOf i).toNat)
  case atStart => exact ⟨0, by omega, rfl, rfl, hhas, hb2⟩
  case round =>
    clear hhas hb2
    obtain ⟨k, hk, rfl, rfl, hhas, hbw⟩ := hrel
    by_cases hlt : k < n
    · obtain ⟨b, o, rfl, hbl, hc0, hc1, hc2, hc3⟩ := (HA.out.below hbw).atEntry (k := k) (by have := HN.out; omega)
      have HS : Hid (mostTo l who (k + 1) = if (l.getD k Entry.zero).fWho == who then (if mostTo l who k < (l.getD k Entry.zero).fNumber then (l.getD k Entry.zero).fNumber else mostTo l who k) else mostTo l who k) := rfl
      have HT : Hid (∀ num, hasTo l who (k + 1) num = (hasTo l who k num || ((l.getD k Entry.zero).fWho == who && (l.getD k Entry.zero).fNumber == num))) := fun num => hasTo_succ l who k num
      obtain ⟨hn1, hn99⟩ := okE_num (log_okE hv (k := k) (by have := HN.out; omega))
      change 1 ≤ (l.getD k Entry.zero).fNumber at hn1
      change (l.getD k Entry.zero).fNumber ≤ 99 at hn99
      generalize l.getD k Entry.zero = r at *
      obtain ⟨t, u, v, x⟩ := r
      dsimp only at hn1 hn99
      obtain ⟨v, rfl⟩ := Int.eq_ofNat_of_zero_le (show 0 ≤ v by omega)
      generalize mostTo l who k = y at *
      have hh1 := hhas.alloc (Obj.cells #[.int .i64 t, .int .i64 u, .int .i64 (v : Int), .int .i64 x] 25)
      have hbw1 := allocB hbw (Obj.cells #[.int .i64 t, .int .i64 u, .int .i64 (v : Int), .int .i64 x] 25)
      cases h1 : (u == who) with
      | false =>
        go_wp2_with fail
        go_roundw
        case rel => exact ⟨k + 1, by omega, by go_num, by rw [HS.out, h1]; rfl, hh1.congr (fun j _ => by rw [HT.out, h1]; simp), hbw1⟩
        case measure => simp [intOf]; omega
      | true =>
        have hcc := hh1.cell (i := v) (by omega)
        have hff := hh1.frozen v
        have hHlt := hhas.lt
        have hst := HasB.alloc (hhas.set (i := v) (g := hasTo l who (k + 1)) (by omega) (fun j hj => by
          rw [HT.out, h1, Bool.true_and]
          by_cases e : j = v
          · subst e; simp
          · rw [if_neg e]
            have : (((v : Int)) == (j : Int)) = false := by simp; omega
            simp only [this, Bool.or_false])) (Obj.cells #[.int .i64 t, .int .i64 u, .int .i64 (v : Int), .int .i64 x] 25)
        have hbs := allocB (hbw.setCell (p := ⟨H, v, none⟩) (by show w.heap.size ≤ H; omega) (.bool true)) (Obj.cells #[.int .i64 t, .int .i64 u, .int .i64 (v : Int), .int .i64 x] 25)
        have hx2 := (one_box wr #[.int .i64 t, .int .i64 u, .int .i64 (v : Int), .int .i64 x] 25 2).trans (show (#[.int .i64 t, .int .i64 u, .int .i64 (v : Int), .int .i64 x] : Array Value)[2]? = some (.int .i64 (v : Int)) from rfl)
        have hx3 := (World.cell?_setCell_other (wr.alloc (Obj.cells #[.int .i64 t, .int .i64 u, .int .i64 (v : Int), .int .i64 x] 25)) ⟨H, v, none⟩ ⟨wr.heap.size, 2, none⟩ (.bool true) (by intro e; cases e; omega)).trans hx2
        clear hhas hh1 hbw hbw1
        by_cases h2 : y < (v : Int)
        · go_wp2_with fail
          go_roundw
          case rel => exact ⟨k + 1, by omega, by go_num, by rw [HS.out, h1, if_pos rfl, if_pos h2], hst, hbs⟩
          case measure => simp [intOf]; omega
        · go_wp2_with fail
          go_roundw
          case rel => exact ⟨k + 1, by omega, by go_num, by rw [HS.out, h1, if_pos rfl, if_neg (by omega)], hst, hbs⟩
          case measure => simp [intOf]; omega
    · have hkn : k = n := by omega
      subst hkn
      obtain ⟨hy0, hy1⟩ := HB.out k (Nat.le_refl _)
      clear hlt hk
      have HF : Hid (∀ num, decide (findI l who num < 0) = !hasTo l who k num) := fun num => by rw [← HN.out]; exact hasTo_find l who num
      generalize mostTo l who k = y at *
      generalize hasTo l who k = f at *
      have hown0 : wr.ownsRow w.heap.size 3 1 (.slice none 0 0) 0 [] := ⟨by simp, .inl ⟨rfl, rfl⟩⟩
      go_wp2_with fail
      go_loopw [9, 10] (fun v i wq => ∃ j : Nat, (j = 0 ∨ (j : Int) + 1 ≤ y) ∧ i = .int .i64 ((j : Int) + 1) ∧ (∃ B c', v = .slice B (gapsTo l who j).length c' ∧ wq.ownsRow w.heap.size 3 1 (.slice B (gapsTo l who j).length c') (gapsTo l who j).length (ints (gapsTo l who j))) ∧ HasB wq H f ∧ Below w.heap.size w wq) (fun _ i _ => (100 - intOf i).toNat)
      case atStart => exact ⟨0, .inl rfl, by go_num, ⟨_, _, rfl, hown0⟩, hhas, hbw⟩
      case round =>
        clear hown0 hhas hbw
        obtain ⟨j, hj, rfl, ⟨B, c', rfl, hown⟩, hhas, hbw⟩ := hrel
        by_cases hlt : (j : Int) + 1 < y
        · have hlen := gapsTo_le l who j
          have HS := Lib.hid (gapsTo_succ l who j)
          have hcc := hhas.cell (i := j + 1) (by omega)
          have hHlt := hhas.lt
          rw [show ((j + 1 : Nat) : Int) = (j : Int) + 1 by omega] at hcc
          generalize gapsTo l who j = acc at *
          cases hf : f ((j : Int) + 1) with
          | false =>
            have HE : Hid (gapsTo l who (j + 1) = acc ++ [(j : Int) + 1]) := by rw [Hid, HS.out, HF.out, hf]; rfl
            clear HS
            rw [hf] at hcc
            go_wp2_with (at_builtin; refine wpList_app1 wr rfl _ _ _ rfl w.heap.size 3 i0 _ 1 8 Tryd.underlying37 HI.out rfl (by omega) (.slice B acc.length c') acc.length (ints acc) rfl hown #[.int .i64 ((j : Int) + 1)] rfl rfl (by simp [Value.oneCell']) (by omega) (by omega) hbw.size ?_; intro v' w3 hown3 hg3)
            have hbw3 := row_alloc_grown hbw rfl hown hg3
            have hh3 := (hhas.alloc _).grown hg3 (by
              intro e
              obtain ⟨cs, h1, _, _⟩ := hhas
              rcases hown.2 with ⟨hv, _⟩ | ⟨g, cap, cur, hv, _, hgg, _⟩
              · rw [hv] at e; simp [Value.ownBlock] at e
              · rw [hv] at e
                simp [Value.ownBlock] at e
                subst e
                rw [hgg] at h1
                cases h1)
            clear hbw hown hg3
            go_roundw
            case rel => exact ⟨j + 1, .inr (by omega), by go_num, snoc_ints hown3 HE.out, hh3, hbw3⟩
            case measure => simp [intOf]; omega
          | true =>
            have HE : Hid (gapsTo l who (j + 1) = acc) := by rw [Hid, HS.out, HF.out, hf]; simp
            clear HS
            rw [hf] at hcc
            go_wp2_with fail
            go_roundw
            case rel => exact ⟨j + 1, .inr (by omega), by go_num, by rw [HE.out]; exact ⟨_, _, rfl, hown⟩, hhas, hbw⟩
            case measure => simp [intOf]; omega
        · go_wp2_with fail
          go_ret
          have e : y.toNat - 1 = j := by omega
          rw [e]
          obtain ⟨B', c2, e, ho⟩ := own_of_row hown
          cases e
          exact ⟨_, _, rfl, ho, hbw⟩

set_option maxHeartbeats 2000000 in
theorem implLG (A : Option Addr) (n c : Nat) (l : List Entry) (who : Int) (w : World) (hn : l.length = n) (hm : n ≤ 1048576) (hA : Rd w A (flatEntry l)) (hcap : n ≤ c) :
    Calls Tryd.prog 17 #[.slice A n c, .int .i64 who] w (RetS 3 1 (ints (gaps l who)) (gaps l who).length w) := by
  cases hv : logB l with
  | true =>
    have := implLG_ok A n c l who w hn hA hcap hv
    rw [gaps, hv, if_pos rfl, hn]
    exact this
  | false =>
    rw [gaps, hv]
    have HA := Lib.hid hA; clear hA
    have HN := Lib.hid hn; clear hn
    go_enter Tryd.func17, Tryd.ntmps17
    go_wp2_with fail
    refine (implLV _ _ _ l _ HN.out hm HA.out hcap).mono ?_
    rintro e w1 ⟨rfl, hb1⟩
    go_wp2_with fail
    go_ret
    exact ⟨_, _, rfl, Own.nil, hb1⟩
end Go.Proofs.YtdlphgknplomkaaDoor
