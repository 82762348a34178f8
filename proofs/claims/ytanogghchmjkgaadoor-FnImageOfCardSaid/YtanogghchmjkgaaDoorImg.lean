/- Contracts of ImageOf, of the reference and of the program. No statement is proved here. -/
import Derived.Test.YtanogghchmjkgaaDoorRepO
namespace Go.Proofs.YtanogghchmjkgaaDoor
open Go.RowKit

/-- the value of the last report, of those in front, that is not of a later one -/
def scan : List Report → Int → Int → Int
  | [], _, acc => acc
  | r :: rs, k, acc => if r.fAt ≤ k then scan rs k r.fValue else acc
def imgTo (l : List Report) (k : Nat) : List Int := (List.range k).map fun (j : Nat) => scan l j 0
def img (l : List Report) (many : Int) : List Int := if repB l && inB many 1 20 then imgTo l many.toNat else []

theorem scan_step (l : List Report) (j : Nat) (k acc : Int) (hj : j < l.length) (h : (l.getD j Report.zero).fAt ≤ k) : scan (l.drop j) k acc = scan (l.drop (j + 1)) k (l.getD j Report.zero).fValue := by
  rw [List.drop_eq_getElem_cons hj, scan]
  simp [hj] at h ⊢
  intro h'; omega
theorem scan_stop (l : List Report) (j : Nat) (k acc : Int) (h : j < l.length → k < (l.getD j Report.zero).fAt) : scan (l.drop j) k acc = acc := by
  rcases Nat.lt_or_ge j l.length with hj | hj
  · rw [List.drop_eq_getElem_cons hj, scan]
    have := h hj
    simp [hj] at this ⊢
    intro h'; omega
  · rw [List.drop_eq_nil_of_le hj, scan]
theorem imgTo_succ (l : List Report) (k : Nat) : imgTo l (k + 1) = imgTo l k ++ [scan l k 0] := by simp [imgTo, List.range_succ]
theorem imgTo_length (l : List Report) (k : Nat) : (imgTo l k).length = k := by simp [imgTo]
theorem rep_len {l : List Report} (h : repB l = true) : 1 ≤ l.length ∧ l.length ≤ 20 := by
  have := (inB_iff _ _ _).1 (Bool.and_eq_true_iff.1 (Bool.and_eq_true_iff.1 h).1).2
  omega

theorem img_le (l : List Report) (many : Int) : (img l many).length ≤ 1048576 := by
  unfold img; split
  · next h => have := (inB_iff _ _ _).1 (Bool.and_eq_true_iff.1 h).2; rw [imgTo_length]; omega
  · simp

set_option maxHeartbeats 1000000 in
theorem specIO_ok (A : Option Addr) (n c : Nat) (l : List Report) (m : Nat) (w : World) (hn : l.length = n) (hA : Rd w A (flatReport l)) (hv : repB l = true) (hm1 : 1 ≤ m) (hm2 : m ≤ 20) :
    Calls Tryd.prog 11 #[.slice A n c, .int .i64 m] w (RetS 3 1 (ints (imgTo l m)) (imgTo l m).length w) := by
  have hn20 := rep_len hv
  have HA := Lib.hid hA; clear hA
  have HN := Lib.hid hn
  have hm : n ≤ 20 := by omega
  clear hn hn20
  have hmb : inB (m : Int) 1 20 = true := (inB_iff _ _ _).2 (by omega)
  obtain ⟨i0, hi0, hz0, hz1, hz2⟩ := info_parts info_int
  have HI := Lib.hid (And.intro hi0 (And.intro hz0 (And.intro hz1 hz2))); clear hi0 hz0 hz1 hz2
  go_enter Tryd.func11, Tryd.ntmps11
  go_wp2_with fail
  refine (specRV _ _ _ l _ HN.out (by omega) (HA.out.below (allocB (Below.refl _ _) _))).mono ?_
  rintro e w1 ⟨rfl, q, rfl⟩
  have hown0 : ((w.alloc (Obj.cells #[] 3)).drewN q).ownsRow w.heap.size 3 1 (.slice (some ⟨w.heap.size, 0, none⟩) 0 0) 0 [] :=
    World.ownsRow_lit w #[] 0 (Nat.le_refl _) (Nat.zero_le _) rfl
  have hb0 : Below w.heap.size w ((w.alloc (Obj.cells #[] 3)).drewN q) := drewNB (allocB (Below.refl _ _) _) _
  generalize (w.alloc (Obj.cells #[] 3)).drewN q = w1 at *
  go_wp2_with (go_at_call 29; refine (l1In_any _ _ _ _).mono ?_; rintro e w' ⟨rfl, rfl⟩)
  go_loopw [5, 6] (fun v i wr => ∃ k : Nat, k ≤ m ∧ i = .int .i64 k ∧ (∃ B c', v = .slice B (imgTo l k).length c' ∧ wr.ownsRow w.heap.size 3 1 (.slice B (imgTo l k).length c') (imgTo l k).length (ints (imgTo l k))) ∧ Below w.heap.size w wr) (fun _ i _ => m - (intOf i).toNat)
  case atStart => exact ⟨0, by omega, rfl, ⟨_, _, rfl, hown0⟩, hb0⟩
  case round =>
    clear hown0 hb0
    obtain ⟨k, hk, rfl, ⟨B, c', rfl, hown⟩, hbw⟩ := hrel
    by_cases hlt : k < m
    · have HA' := Lib.hid (HA.out.below hbw)
      have hlen := imgTo_length l k
      have HS := Lib.hid (imgTo_succ l k)
      generalize imgTo l k = acc at *
      have hacc : acc.length ≤ 20 := by omega
      clear hlen
      go_wp2_with fail
      go_loop [7, 8] (fun x j => ∃ (jj : Nat) (xx : Int), jj ≤ n ∧ j = .int .i64 jj ∧ x = .int .i64 xx ∧ Hid (scan (l.drop jj) k xx = scan l k 0)) (fun _ j => n - (intOf j).toNat)
      case atStart => exact ⟨0, 0, by omega, rfl, rfl, rfl⟩
      case round =>
        obtain ⟨jj, xx, hjj, rfl, rfl, hsc⟩ := hrel
        by_cases hj : jj < n
        · obtain ⟨b, o, rfl, hbl, hc0, hc1⟩ := HA'.out.atReport (k := jj) (by have := HN.out; omega)
          by_cases hat : (l.getD jj Report.zero).fAt ≤ k
          · have HS2 := Lib.hid (scan_step l jj k xx (by have := HN.out; omega) hat)
            generalize l.getD jj Report.zero = r at *
            go_wp2_with fail
            go_round
            case rel => exact ⟨jj + 1, r.fValue, by omega, by go_num, rfl, by rw [Hid, ← HS2.out]; exact hsc.out⟩
            case measure => simp [intOf]; omega
          · have HS2 := Lib.hid (scan_stop l jj k xx (fun _ => by omega))
            generalize l.getD jj Report.zero = r at *
            go_wp2_with (at_builtin; refine wpList_app1 wr rfl _ _ _ rfl w.heap.size 3 i0 _ 1 8 Tryd.underlying26 HI.out rfl (by omega) (.slice B acc.length c') acc.length (ints acc) rfl hown #[.int .i64 xx] rfl rfl (by simp [Value.oneCell']) (by omega) (by omega) hbw.size ?_; intro v' w3 hown3 hg3)
            have hbw3 := row_alloc_grown hbw rfl hown hg3
            clear hbw hown hg3
            go_roundw
            case rel => exact ⟨k + 1, by omega, by go_num, snoc_ints hown3 (by rw [HS.out, ← hsc.out, HS2.out]), hbw3⟩
            case measure => simp [intOf]; omega
        · have HS2 := Lib.hid (scan_stop l jj k xx (fun h => by have := HN.out; omega))
          go_wp2_with (at_builtin; refine wpList_app1 wr rfl _ _ _ rfl w.heap.size 3 i0 _ 1 8 Tryd.underlying26 HI.out rfl (by omega) (.slice B acc.length c') acc.length (ints acc) rfl hown #[.int .i64 xx] rfl rfl (by simp [Value.oneCell']) (by omega) (by omega) hbw.size ?_; intro v' w3 hown3 hg3)
          have hbw3 := row_alloc_grown hbw rfl hown hg3
          clear hbw hown hg3
          go_roundw
          case rel => exact ⟨k + 1, by omega, by go_num, snoc_ints hown3 (by rw [HS.out, ← hsc.out, HS2.out]), hbw3⟩
          case measure => simp [intOf]; omega
    · go_wp2_with fail
      go_ret
      have hkn : k = m := by omega
      subst hkn
      obtain ⟨B', c2, e, ho⟩ := own_of_row hown
      cases e
      exact ⟨_, _, rfl, ho, hbw⟩

set_option maxHeartbeats 1000000 in
theorem specIO (A : Option Addr) (n c : Nat) (l : List Report) (many : Int) (w : World) (hn : l.length = n) (hm : n ≤ 1048576) (hA : Rd w A (flatReport l)) :
    Calls Tryd.prog 11 #[.slice A n c, .int .i64 many] w (RetS 3 1 (ints (img l many)) (img l many).length w) := by
  cases hv : repB l with
  | true =>
    cases hb : inB many 1 20 with
    | true =>
      have h := (inB_iff _ _ _).1 hb
      obtain ⟨m, rfl⟩ := Int.eq_ofNat_of_zero_le (show 0 ≤ many by omega)
      rw [img, hv, hb]
      exact specIO_ok A n c l m w hn hA hv (by omega) (by omega)
    | false =>
      rw [img, hv, hb]
      have HA := Lib.hid hA; clear hA
      have HN := Lib.hid hn; clear hn
      go_enter Tryd.func11, Tryd.ntmps11
      go_wp2_with fail
      refine (specRV _ _ _ l _ HN.out hm (HA.out.below (allocB (Below.refl _ _) _))).mono ?_
      rintro e w1 ⟨rfl, q, rfl⟩
      go_wp2_with (go_at_call 29; refine (l1In_any _ _ _ _).mono ?_; rintro e w' ⟨rfl, rfl⟩)
      go_ret
      exact ⟨_, _, rfl, Own.nil, drewNB (allocB (Below.refl _ _) _) _⟩
  | false =>
    rw [img, hv]
    have HA := Lib.hid hA; clear hA
    have HN := Lib.hid hn; clear hn
    go_enter Tryd.func11, Tryd.ntmps11
    go_wp2_with fail
    refine (specRV _ _ _ l _ HN.out hm (HA.out.below (allocB (Below.refl _ _) _))).mono ?_
    rintro e w1 ⟨rfl, q, rfl⟩
    go_wp2_with (go_at_call 29; refine (l1In_any _ _ _ _).mono ?_; rintro e w' ⟨rfl, rfl⟩)
    go_ret
    exact ⟨_, _, rfl, Own.nil, drewNB (allocB (Below.refl _ _) _) _⟩

/-- what stands at p after the first k reports have been laid over each other -/
def fval (l : List Report) (k : Nat) (p : Nat) : Int := (l.take k).foldl (fun acc (r : Report) => if r.fAt ≤ (p : Int) then r.fValue else acc) 0
def fillTo (l : List Report) (k m : Nat) : List Int := (List.range m).map (fval l k)
/-- .. and the next one, up to a -/
def fillIn (l : List Report) (k m : Nat) (a0 a : Nat) (v : Int) : List Int := (List.range m).map fun p => if a0 ≤ p ∧ p < a then v else fval l k p
theorem fval_succ (l : List Report) (k p : Nat) (hk : k < l.length) : fval l (k + 1) p = if (l.getD k Report.zero).fAt ≤ (p : Int) then (l.getD k Report.zero).fValue else fval l k p := by
  rw [fval, List.take_succ_eq_append_getElem hk, List.foldl_append]
  simp [fval, hk]
theorem fillIn_zero (l : List Report) (k m a0 : Nat) (v : Int) : fillIn l k m a0 a0 v = fillTo l k m := by
  unfold fillIn fillTo
  refine List.map_congr_left fun p _ => ?_
  rw [if_neg (by omega)]
theorem fillIn_succ (l : List Report) (k m a0 a : Nat) (v : Int) (h0 : a0 ≤ a) (h : a < m) : (fillIn l k m a0 a v).set a v = fillIn l k m a0 (a + 1) v := by
  apply List.ext_getElem?
  intro p
  rw [List.getElem?_set]
  by_cases hp : a = p
  · subst hp
    simp [fillIn, h, h0]
  · simp only [hp, if_false, fillIn, List.getElem?_map]
    rcases Nat.lt_or_ge p m with hpm | hpm
    · simp only [List.getElem?_range hpm, Option.map_some]
      congr 1
      by_cases h1 : a0 ≤ p ∧ p < a
      · rw [if_pos h1, if_pos (by omega)]
      · rw [if_neg h1, if_neg (by omega)]
    · simp [hpm]
theorem fillIn_all (l : List Report) (k m a0 a : Nat) (hk : k < l.length) (h0 : (l.getD k Report.zero).fAt = a0) (ha : m ≤ a) : fillIn l k m a0 a (l.getD k Report.zero).fValue = fillTo l (k + 1) m := by
  unfold fillIn fillTo
  refine List.map_congr_left fun p hp => ?_
  rw [List.mem_range] at hp
  rw [fval_succ l k p hk, h0]
  by_cases h : a0 ≤ p
  · rw [if_pos (by omega), if_pos (by omega)]
  · rw [if_neg (by omega), if_neg (by omega)]
theorem rep_at {l : List Report} (h : repB l = true) {k : Nat} (hk : k < l.length) : 0 ≤ (l.getD k Report.zero).fAt ∧ (l.getD k Report.zero).fAt ≤ 19 := by
  have h1 := (Bool.and_eq_true_iff.1 (Bool.and_eq_true_iff.1 h).1).1
  rw [List.all_eq_true] at h1
  have := h1 k (by simpa using hk)
  simp only [repOk, Bool.and_eq_true, inB_iff] at this
  exact this.1.2
theorem rep_val {l : List Report} (h : repB l = true) {k : Nat} (hk : k < l.length) : 0 ≤ (l.getD k Report.zero).fValue ∧ (l.getD k Report.zero).fValue ≤ 999 := by
  have h1 := (Bool.and_eq_true_iff.1 (Bool.and_eq_true_iff.1 h).1).1
  rw [List.all_eq_true] at h1
  have := h1 k (by simpa using hk)
  simp only [repOk, Bool.and_eq_true, inB_iff] at this
  exact this.1.1
theorem rep_asc {l : List Report} (h : repB l = true) : ∀ j i, i < j → j < l.length → (l.getD i Report.zero).fAt < (l.getD j Report.zero).fAt := by
  have h1 := (Bool.and_eq_true_iff.1 (Bool.and_eq_true_iff.1 h).1).1
  rw [List.all_eq_true] at h1
  intro j
  induction j with
  | zero => intro i hi; omega
  | succ j ih =>
    intro i hi hj
    have := h1 (j + 1) (by simpa using hj)
    simp only [repOk, Bool.and_eq_true, Bool.or_eq_true, decide_eq_true_eq, beq_iff_eq] at this
    have hs : (l.getD j Report.zero).fAt < (l.getD (j + 1) Report.zero).fAt := by
      rcases this.2 with e | e
      · omega
      · simpa using e
    rcases Nat.lt_or_ge i j with hij | hij
    · have := ih i hij (by omega); omega
    · have : i = j := by omega
      subst this; exact hs
theorem foldl_later (l : List Report) (p acc : Int) (h : ∀ r ∈ l, p < r.fAt) : l.foldl (fun acc (r : Report) => if r.fAt ≤ p then r.fValue else acc) acc = acc := by
  induction l with
  | nil => rfl
  | cons r rs ih =>
    rw [List.foldl_cons, if_neg (by have := h r (by simp); omega)]
    exact ih fun s hs => h s (by simp [hs])
theorem scan_fold (l : List Report) (p : Int) : ∀ acc, l.Pairwise (fun a b => a.fAt < b.fAt) → scan l p acc = l.foldl (fun acc (r : Report) => if r.fAt ≤ p then r.fValue else acc) acc := by
  induction l with
  | nil => intro _ _; rfl
  | cons r rs ih =>
    intro acc h
    rw [List.pairwise_cons] at h
    rw [scan, List.foldl_cons]
    by_cases hr : r.fAt ≤ p
    · rw [if_pos hr, if_pos hr]; exact ih _ h.2
    · rw [if_neg hr, if_neg hr, foldl_later rs p acc (fun s hs => by have := h.1 s hs; omega)]
theorem fillTo_all {l : List Report} (h : repB l = true) (m : Nat) : fillTo l l.length m = imgTo l m := by
  unfold fillTo imgTo
  refine List.map_congr_left fun p _ => ?_
  rw [fval, List.take_length, scan_fold]
  rw [List.pairwise_iff_getElem]
  intro i j hi hj hij
  have := rep_asc h j i hij hj
  simpa [hi, hj] using this
theorem fillTo_length (l : List Report) (k m : Nat) : (fillTo l k m).length = m := by simp [fillTo]

theorem fillTo_zero (l : List Report) (m : Nat) : ints (fillTo l 0 m) = (madeCells (Value.int .i64 0).cells (m * 1)).toList := by
  simp only [Value.cells, toList_madeCells_one, Nat.mul_one]
  apply List.ext_getElem?
  intro i
  rcases Nat.lt_or_ge i m with h | h
  · simp [ints, fillTo, fval, h]
  · simp [ints, fillTo, h]

set_option maxHeartbeats 1000000 in
theorem implIO_ok (A : Option Addr) (n c : Nat) (l : List Report) (m : Nat) (w : World) (hn : l.length = n) (hA : Rd w A (flatReport l)) (hv : repB l = true) (hm1 : 1 ≤ m) (hm2 : m ≤ 20) :
    Calls Tryd.prog 9 #[.slice A n c, .int .i64 m] w (RetS 3 1 (ints (imgTo l m)) (imgTo l m).length w) := by
  have hn20 := rep_len hv
  have HA := Lib.hid hA; clear hA
  have HN := Lib.hid hn
  have HV := Lib.hid hv
  have hm : n ≤ 20 := by omega
  clear hn hn20
  obtain ⟨i0, hi0, hz0, hz1, hz2⟩ := info_parts info_int
  have hx1 : decide ((m : Int) < 1) = false := by simp; omega
  have hx2 : decide ((20 : Int) < (m : Int)) = false := by simp; omega
  go_enter Tryd.func9, Tryd.ntmps9
  go_wp2_with fail
  refine (implRV _ _ _ l _ HN.out (by omega) HA.out).mono ?_
  rintro e w1 ⟨rfl, hb1⟩
  go_wp2_with (at_make; refine wpList_make_full _ rfl _ _ _ rfl w.heap.size 3 i0 (.int .i64 0) 1 Tryd.underlying26 hi0 hz0 hz1 .i64 .i64 m m m rfl rfl rfl rfl (by rw [hz2]; omega) (by unfold maxLen; omega) hb1.size ?_; intro w2 hown hgr)
  have hb2 : Below w.heap.size w w2 := hb1.grown hgr hb1.size (by simp)
  obtain ⟨A', c', e', ho0⟩ := own_of_row hown
  cases e'
  have ho1 : Own w2 w.heap.size 3 1 (some ⟨w1.heap.size, 0, none⟩) m (ints (fillTo l 0 m)) := by
    rw [fillTo_zero]; exact ho0
  have hG := hb1.size
  generalize w1.heap.size = G at *
  clear ho0 hown hgr hi0 hz0 hz1 hz2 hb1 hx1 hx2
  go_loopw [24] (fun i wr => ∃ k : Nat, k ≤ n ∧ i = .int .i64 k ∧ Own wr w.heap.size 3 1 (some ⟨G, 0, none⟩) m (ints (fillTo l k m)) ∧ Below w.heap.size w wr) (fun i _ => n - (intOf i).toNat)
  case atStart => exact ⟨0, by omega, rfl, ho1, hb2⟩
  case round =>
    clear ho1 hb2
    obtain ⟨k, hk, rfl, hown, hbw⟩ := hrel
    by_cases hlt : k < n
    · obtain ⟨b, o, rfl, hbl, hc0, hc1⟩ := (HA.out.below hbw).atReport (k := k) (by have := HN.out; omega)
      obtain ⟨ha0, ha1⟩ := rep_at HV.out (k := k) (by have := HN.out; omega)
      obtain ⟨a0, hae⟩ := Int.eq_ofNat_of_zero_le ha0
      have HE := Lib.hid hae
      have HF := Lib.hid (fun a => fillIn_all l k m a0 a (by have := HN.out; omega) hae)
      rw [hae] at hc0
      rw [← fillIn_zero l k m a0 (l.getD k Report.zero).fValue] at hown
      have ha2 : a0 ≤ 19 := by omega
      clear ha0 ha1 hae
      generalize l.getD k Report.zero = r at *
      go_wp2_with fail
      have hown1 := hown.below (allocB (Below.refl _ _) (Obj.cells #[Value.int .i64 (a0 : Int), Value.int .i64 r.fValue] 31))
      have hbw1 := allocB hbw (Obj.cells #[Value.int .i64 (a0 : Int), Value.int .i64 r.fValue] 31)
      have hx : (wr.alloc (Obj.cells #[Value.int .i64 (a0 : Int), Value.int .i64 r.fValue] 31)).cell? ⟨wr.heap.size, 1, none⟩ = some (.int .i64 r.fValue) := cell_news wr #[Value.int .i64 (a0 : Int), Value.int .i64 r.fValue] 31 1 _ rfl
      obtain ⟨g', eg, hgG, hGw⟩ := hown.form (by omega)
      have hGw' : G < wr.heap.size := by cases eg; exact hGw
      clear eg hGw g' hgG hown hbw hc0 hc1 hbl
      generalize wr.alloc (Obj.cells #[Value.int .i64 (a0 : Int), Value.int .i64 r.fValue] 31) = wq at *
      generalize wr.heap.size = Pb at *
      go_loopw [8] (fun j wi => ∃ a : Nat, j = .int .i64 a ∧ a0 ≤ a ∧ (a ≤ m ∨ a = a0) ∧ Own wi w.heap.size 3 1 (some ⟨G, 0, none⟩) m (ints (fillIn l k m a0 a r.fValue)) ∧ wi.cell? ⟨Pb, 1, none⟩ = some (.int .i64 r.fValue) ∧ Below w.heap.size w wi) (fun j _ => m - (intOf j).toNat)
      case atStart => exact ⟨a0, rfl, by omega, .inr rfl, hown1, hx, hbw1⟩
      case round =>
        clear hown1 hx hbw1
        obtain ⟨a, rfl, ha3, ha4, hown2, hx2, hbw2⟩ := hrel
        by_cases ham : a < m
        · have hpos : 0 < m := by omega
          have hf := hown2.frozen hpos a
          obtain ⟨uz, hu⟩ := hown2.has hpos a (by omega)
          have hst := hown2.set a (.int .i64 r.fValue)
          have hbs := hbw2.setCell (p := ⟨G, a, none⟩) (by show w.heap.size ≤ G; omega) (.int .i64 r.fValue)
          have hxs := (World.cell?_setCell_other wr ⟨G, a, none⟩ ⟨Pb, 1, none⟩ (.int .i64 r.fValue) (by intro e; cases e; omega)).trans hx2
          clear hown2 hbw2
          go_wp2_with fail
          go_roundw
          case rel =>
            refine ⟨a + 1, by go_num, by omega, .inl (by omega), ?_, hxs, hbs⟩
            have e := fillIn_succ l k m a0 a r.fValue ha3 ham
            rw [← e, ints, List.map_set]
            exact hst
          case measure => simp [intOf]; omega
        · go_wp2_with fail
          go_roundw
          case rel =>
            refine ⟨k + 1, by omega, by go_num, ?_, hbw2⟩
            rw [← HF.out a (by omega)]
            exact hown2
          case measure => simp [intOf]; omega
    · go_wp2_with fail
      go_ret
      have hkn : k = n := by omega
      subst hkn
      rw [← HN.out, fillTo_all HV.out] at hown
      rw [← fillTo_all HV.out, fillTo_length, fillTo_all HV.out]
      exact ⟨_, _, rfl, hown, hbw⟩

set_option maxHeartbeats 1000000 in
theorem implIO (A : Option Addr) (n c : Nat) (l : List Report) (many : Int) (w : World) (hn : l.length = n) (hm : n ≤ 1048576) (hA : Rd w A (flatReport l)) :
    Calls Tryd.prog 9 #[.slice A n c, .int .i64 many] w (RetS 3 1 (ints (img l many)) (img l many).length w) := by
  cases hv : repB l with
  | true =>
    cases hb : inB many 1 20 with
    | true =>
      have h := (inB_iff _ _ _).1 hb
      obtain ⟨m, rfl⟩ := Int.eq_ofNat_of_zero_le (show 0 ≤ many by omega)
      rw [img, hv, hb]
      exact implIO_ok A n c l m w hn hA hv (by omega) (by omega)
    | false =>
      rw [img, hv, hb]
      have HA := Lib.hid hA; clear hA
      have HN := Lib.hid hn; clear hn
      by_cases h1 : many < 1
      · go_enter Tryd.func9, Tryd.ntmps9
        go_wp2_with fail
        refine (implRV _ _ _ l _ HN.out hm HA.out).mono ?_
        rintro e w1 ⟨rfl, hb1⟩
        go_wp2_with fail
        go_ret
        exact ⟨_, _, rfl, Own.nil, hb1⟩
      · have h2 : 20 < many := by have := (inB_not _ _ _).1 hb; omega
        go_enter Tryd.func9, Tryd.ntmps9
        go_wp2_with fail
        refine (implRV _ _ _ l _ HN.out hm HA.out).mono ?_
        rintro e w1 ⟨rfl, hb1⟩
        go_wp2_with fail
        go_ret
        exact ⟨_, _, rfl, Own.nil, hb1⟩
  | false =>
    rw [img, hv]
    have HA := Lib.hid hA; clear hA
    have HN := Lib.hid hn; clear hn
    go_enter Tryd.func9, Tryd.ntmps9
    go_wp2_with fail
    refine (implRV _ _ _ l _ HN.out hm HA.out).mono ?_
    rintro e w1 ⟨rfl, hb1⟩
    go_wp2_with fail
    go_ret
    exact ⟨_, _, rfl, Own.nil, hb1⟩
end Go.Proofs.YtanogghchmjkgaaDoor
