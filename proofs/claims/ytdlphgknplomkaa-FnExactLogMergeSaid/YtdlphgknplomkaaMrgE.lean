/- The contract of the program's LogMerge. No statement is proved here. -/
import Derived.Test.YtdlphgknplomkaaConE
import Derived.Test.YtdlphgknplomkaaLogM
namespace Go.Proofs.Ytdlphgknplomkaa
open Go.RowKit Go.Sort Go.Shelf

theorem flatK_at (d : Array Entry) (j : Nat) (hj : j < d.size * 4) : (flatEntry d.toList)[j]? = some (flatK Entry.cells 4 d)[j]! := by
  have h := flat_get Entry.cells 4 Entry.cells_length Entry.zero d.toList (j / 4) (j % 4) (by simp; omega) (by omega)
  rw [show j / 4 * 4 + j % 4 = j by omega] at h
  rw [flatEntry, h, get_flatK Entry.cells 4 d j hj]
  have hlt : j / 4 < d.size := by omega
  have e : d.toList.getD (j / 4) Entry.zero = d[j / 4]! := by
    rw [getElem!_pos d _ hlt]; simp [hlt]
  rw [e]
  have hl : j % 4 < (d[j / 4]!).cells.length := by rw [Entry.cells_length]; omega
  rw [List.getElem?_eq_getElem hl]
  congr 1
  exact (getElem!_pos (d[j / 4]!).cells (j % 4) hl).symm
theorem row_holdsK {w : World} {base g n c : Nat} {l : List Entry} (h : w.ownsRow base 30 4 (.slice (some ⟨g, 0, none⟩) n c) n (flatEntry l)) (hn : l.length = n) : RowK Entry.cells 4 w g 0 l.toArray where
  hk := Entry.cells_length
  h1 := cells_one4
  hH := by
    intro j hj
    rw [size_flatK] at hj
    rw [Nat.zero_add]
    rcases h.2 with ⟨e, _⟩ | ⟨g', cap, cur, e, hge, hg, hnc, hm, hz, ht⟩
    · cases e
    · cases e
      refine ⟨?_, frozen_of_row w g j cur _ hg⟩
      rw [cell_of_row w g j cur _ (0, 0) hg]
      have h1 := flatK_at l.toArray j hj
      have hjn : j < n * 4 := by rw [← hn]; simpa using hj
      rw [← ht, List.getElem?_take, if_pos hjn, Array.getElem?_toList] at h1
      exact h1
  hblk := by
    rcases h.2 with ⟨e, _⟩ | ⟨g', cap, cur, e, hge, hg, _⟩
    · cases e
    · cases e
      exact blk_in hg
theorem swk_row {w W : World} {base g n c K : Nat} {cs : List Value} {dk : Array Entry} (h : w.ownsRow base 30 4 (.slice (some ⟨g, 0, none⟩) n c) n cs) (hd : dk.size = n) (hK : K ≤ n) (S : SWK Entry.cells 4 w g 0 dk W) :
    W.ownsRow base 30 4 (.slice (some ⟨g, 0, none⟩) K c) K (flatEntry (dk.toList.take K)) := by
  refine ⟨by rw [flatEntry_length, List.length_take]; simp [hd]; omega, ?_⟩
  rcases h.2 with ⟨e, _⟩ | ⟨g', cap, cur, e, hge, hg, hnc, hm, hz, ht⟩
  · cases e
  · cases e
    obtain ⟨m, os, rfl⟩ := S
    refine .inr ⟨g, c, putCells id 0 (flatK Entry.cells 4 dk) cur, rfl, hge, ?_, by omega, hm, by simp [putCells, hz], ?_⟩
    · unfold sortWorldK
      rw [heap_grow_old _ _ (by rw [size_putRowK]; exact blk_in hg)]
      unfold putRowK
      simp only [putRow, mapBlock, Array.getElem?_modify, if_true]
      show Option.map _ (w.heap[g]?) = _
      rw [hg]; rfl
    · apply List.ext_getElem?
      intro j
      rcases Nat.lt_or_ge j (K * 4) with hj | hj
      · have hjd : j < dk.size * 4 := by omega
        have h1 := flatK_at dk j hjd
        have hsplit := flatE_split dk.toList K
        have hl : (flatEntry (dk.toList.take K)).length = K * 4 := flatE_len _ K (by rw [List.length_take]; simp [hd]; omega)
        rw [hsplit, List.getElem?_append_left (by rw [hl]; exact hj)] at h1
        rw [h1, List.getElem?_take, if_pos hj, Array.getElem?_toList]
        simp only [putCells, Array.getElem?_mapIdx]
        rw [Array.getElem?_eq_getElem (by omega)]
        simp only [Option.map_some, Nat.zero_le, Nat.zero_add, Nat.sub_zero, size_flatK, true_and, id, if_pos hjd]
      · rw [List.getElem?_take, if_neg (by omega)]
        rw [List.getElem?_eq_none (by rw [flatE_len _ K (by rw [List.length_take]; simp [hd]; omega)]; exact hj)]
theorem swk_below {w W : World} {base g : Nat} {dk : Array Entry} (hg : base ≤ g) (hw : g < w.heap.size) (S : SWK Entry.cells 4 w g 0 dk W) : Below base w W := by
  obtain ⟨m, os, rfl⟩ := S
  refine ⟨rfl, rfl, rfl, ?_, fun k hk => ?_⟩
  · unfold sortWorldK; rw [size_grow, size_putRowK]; show w.heap.size ≤ w.heap.size + _; omega
  · unfold sortWorldK
    rw [heap_grow_old _ _ (by rw [size_putRowK]; show k < w.heap.size; omega)]
    have hne : g ≠ k := by omega
    unfold putRowK
    simp only [putRow, mapBlock, Array.getElem?_modify, if_neg hne]
    rfl
theorem perm_full {d d' : Array Entry} (h : PermIn 0 d.size d d') : d'.toList.Perm d.toList := by
  have := h.2.2
  rw [Array.extract_eq_self_of_le (Nat.le_refl _), Array.extract_eq_self_of_le (by rw [h.1]; exact Nat.le_refl _)] at this
  exact this
theorem sorted_pw {d : Array Entry} (h : SortedIn (ltOf cmpE) 0 d.size d) : d.toList.Pairwise fun x y => lessB y x = false := by
  rw [List.pairwise_iff_getElem]
  intro i j hi hj hij
  have := h i j (by omega) hij (by simpa using hj)
  change decide _ = false at this
  rw [cmpE_less, getElem!_pos d j (by simpa using hj), getElem!_pos d i (by simpa using hi)] at this
  simpa using this

set_option maxHeartbeats 400000 in
theorem stab0 (p : Option Addr) (cap : Nat) (f : Value) (w : World) : Calls Try.prog 39 #[.slice p 0 cap, .int .i64 0, f] w fun e w' => e = .returned (.tuple #[]) ∧ w = w' := by
  go_enter Try.func39, Try.ntmps39
  go_wp2_with fail
  refine wp_loop_rounds 1 ?_
  rw [rounds_succ]
  go_wp2_with fail
  refine (insNone p 0 cap 0 _ _ f w rfl rfl (by omega)).mono ?_
  rintro e w1 ⟨rfl, rfl⟩
  go_wp2_with fail
  refine wp_loop_rounds 1 ?_
  rw [rounds_succ]
  go_wp2_with fail
  go_end0
  exact ⟨rfl, rfl⟩
set_option maxHeartbeats 400000 in
theorem sort0 (p : Option Addr) (cap : Nat) (f : Value) (w : World) : Calls Try.prog 26 #[.slice p 0 cap, f] w fun e w' => e = .returned (.tuple #[]) ∧ w = w' := by
  go_enter Try.func26, Try.ntmps26
  go_wp2_with fail
  refine (stab0 p cap f w).mono ?_
  rintro e w1 ⟨rfl, rfl⟩
  go_wp2_with fail
  go_end0
  exact ⟨rfl, rfl⟩
set_option maxHeartbeats 400000 in
theorem comp0 (p : Option Addr) (cap : Nat) (w : World) : Calls Try.prog 27 #[.slice p 0 cap] w fun e w' => e = .returned (.slice p 0 cap) ∧ w = w' := by
  go_enter Try.func27, Try.ntmps27
  go_wp2_with fail
  go_ret
  exact ⟨rfl, rfl⟩
/-- sort and Compact of an own row of at most 32 entries -/
def RetSC (base : Nat) (l : List Entry) (w : World) (B : Option Addr) (c : Nat) (w' : World) : Prop :=
  ∃ r : List Entry, (∀ x, x ∈ r ↔ x ∈ l) ∧ r.length = l.length ∧ (r.Pairwise fun x y => lessB y x = false) ∧ w'.ownsRow base 30 4 (.slice B l.length c) l.length (flatEntry r) ∧ Below base w w'
theorem sortE (base : Nat) (B : Option Addr) (c n : Nat) (l : List Entry) (w : World) (hn : l.length = n) (h32 : n ≤ 32) (h : w.ownsRow base 30 4 (.slice B n c) n (flatEntry l)) :
    Calls Try.prog 26 #[.slice B n c, .func (.func 22) #[] #[]] w fun e w' => e = .returned (.tuple #[]) ∧ RetSC base l w B c w' := by
  subst hn
  rcases Nat.eq_zero_or_pos l.length with h0 | h0
  · rw [h0] at h ⊢
    refine (sort0 B c _ w).mono ?_
    rintro e w' ⟨rfl, rfl⟩
    have hl : l = [] := List.eq_nil_of_length_eq_zero h0
    subst hl
    exact ⟨rfl, [], fun x => Iff.rfl, rfl, List.Pairwise.nil, h, Below.refl _ _⟩
  · have R : ∃ g, B = some ⟨g, 0, none⟩ ∧ base ≤ g := by
      rcases h.2 with ⟨e, e2⟩ | ⟨g', cap, cur, e, hge, _⟩
      · omega
      · cases e; exact ⟨g', rfl, hge⟩
    obtain ⟨g, rfl, hge⟩ := R
    have R := row_holdsK h rfl
    refine (sortW g c l.length l.toArray w (by simp) h32 R).mono ?_
    rintro e w' ⟨rfl, d', P', Q', S'⟩
    have hd : d'.size = l.length := by rw [P'.1]; simp
    have hp := perm_full P'
    refine ⟨rfl, d'.toList, fun x => hp.mem_iff, by simpa using hd, sorted_pw (by rw [hd]; simpa using Q'), ?_, swk_below hge R.hblk S'⟩
    have := swk_row h hd (Nat.le_refl _) S'
    rwa [List.take_of_length_le (by simp [hd])] at this
theorem compactE (base : Nat) (B : Option Addr) (c n : Nat) (l : List Entry) (w : World) (hn : l.length = n) (hm : n ≤ 1048576) (h : w.ownsRow base 30 4 (.slice B n c) n (flatEntry l)) :
    Calls Try.prog 27 #[.slice B n c] w fun e w' => e = .returned (.slice B (compE l).length c) ∧ w'.ownsRow base 30 4 (.slice B (compE l).length c) (compE l).length (flatEntry (compE l)) ∧ Below base w w' := by
  subst hn
  rcases Nat.eq_zero_or_pos l.length with h0 | h0
  · have hl : l = [] := List.eq_nil_of_length_eq_zero h0
    subst hl
    refine (comp0 B c w).mono ?_
    rintro e w' ⟨rfl, rfl⟩
    exact ⟨rfl, h, Below.refl _ _⟩
  · have R : ∃ g, B = some ⟨g, 0, none⟩ ∧ base ≤ g := by
      rcases h.2 with ⟨e, e2⟩ | ⟨g', cap, cur, e, hge, _⟩
      · omega
      · cases e; exact ⟨g', rfl, hge⟩
    obtain ⟨g, rfl, hge⟩ := R
    have R := row_holdsK h rfl
    have hcap := row_cap h
    have hc := compG (blk := g) (off := 0) comP c l.toArray l.toArray w R rfl (SWK.start R.hH) (by simpa using hcap) (by simp; omega)
    rw [compact_compE l, List.size_toArray] at hc
    refine hc.mono ?_
    rintro e w' ⟨rfl, d', hd, ht, S'⟩
    have hK : (compE l).length ≤ l.length := by
      have := congrArg List.length ht
      rw [List.length_take] at this
      simp [hd] at this
      omega
    have := swk_row h hd hK S'
    rw [ht] at this
    exact ⟨rfl, this, swk_below hge R.hblk S'⟩

theorem compFrom_len : ∀ (t : List Entry) (p : Entry), (compFrom p t).length ≤ t.length
  | [], _ => Nat.le_refl _
  | y :: t, p => by
    rw [compFrom]; split
    · exact Nat.le_succ_of_le (compFrom_len t y)
    · exact Nat.succ_le_succ (compFrom_len t y)
def FmM (A : Option Addr) (n c : Nat) : Prop := n ≤ c ∧ (A = none ∧ c = 0 ∨ ∃ g, A = some ⟨g, 0, none⟩)
theorem row_fmM {w : World} {base n c : Nat} {E : TypeId} {size : Nat} {A : Option Addr} {cs : List Value} (h : w.ownsRow base E size (.slice A n c) n cs) : FmM A n c := by
  rcases h.2 with ⟨e, _⟩ | ⟨g, cap, cur, e, _, _, hn, _⟩
  · cases e; exact ⟨Nat.le_refl _, .inl ⟨rfl, rfl⟩⟩
  · cases e; exact ⟨hn, .inr ⟨g, rfl⟩⟩
theorem fm_nilM {B : Option Addr} {n c : Nat} (h : FmM B n c) (e : B = none) : n = 0 ∧ c = 0 := by
  obtain ⟨h1, h2⟩ := h
  rcases h2 with ⟨_, h⟩ | ⟨g, h⟩
  · exact ⟨by omega, h⟩
  · rw [e] at h; cases h
def RetLM (a b : List Entry) (w : World) (en : Ending) (w' : World) : Prop :=
  ∃ B d, en = .returned (.tuple #[.slice B (mergeV a b).1.length d, .bool (mergeV a b).2]) ∧ w'.ownsRow w.heap.size 30 4 (.slice B (mergeV a b).1.length d) (mergeV a b).1.length (flatEntry (mergeV a b).1) ∧ Below w.heap.size w w'
set_option maxRecDepth 100000 in
set_option maxHeartbeats 2000000 in
theorem implLM (A : Option Addr) (n c : Nat) (a : List Entry) (B : Option Addr) (m d : Nat) (b : List Entry) (w : World) (hn : a.length = n) (hm : n ≤ 1048576) (hF : FmM A n c) (hA : Rd w A (flatEntry a)) (hn2 : b.length = m) (hm2 : m ≤ 1048576) (hF2 : FmM B m d) (hB : Rd w B (flatEntry b)) :
    Calls Try.prog 14 #[.slice A n c, .slice B m d] w (RetLM a b w) := by
  have hc := hF.1
  have hc2 := hF2.1
  have HF1 : Hid (A = none → n = 0 ∧ c = 0) := fun e => fm_nilM hF e
  have HF2 : Hid (B = none → m = 0 ∧ d = 0) := fun e => fm_nilM hF2 e
  have HA := Lib.hid hA; have HB := Lib.hid hB; have HN := Lib.hid hn; have HM := Lib.hid hn2
  have hb : Below w.heap.size w w := Below.refl _ _
  clear hA hB hn hn2 hF hF2
  unfold RetLM
  cases ha : logB a with
  | false =>
    have HV : Hid (mergeV a b = ([], false)) := merge_no (fun h => by rw [ha] at h; cases h.1)
    rw [HV.out]
    go_enter Try.func14, Try.ntmps14
    go_wp2_with fail
    refine (implLVb a false A n c _ ha HN.out hm HA.out hc).mono ?_
    rintro e w1 ⟨rfl, hbn⟩
    replace hb := seqB hb hbn
    clear hbn
    go_wp2_with fail
    exact bodyPost_ret (v := .tuple #[.slice none 0 0, .bool false]) (by simp [results, Try.results14, go_sem]) rfl ⟨none, 0, rfl, row_zero, hb⟩
  | true =>
    cases hlb : logB b with
    | false =>
      have HV : Hid (mergeV a b = ([], false)) := merge_no (fun h => by rw [hlb] at h; cases h.2)
      rw [HV.out]
      go_enter Try.func14, Try.ntmps14
      go_wp2_with fail
      refine (implLVb a true A n c _ ha HN.out hm HA.out hc).mono ?_
      rintro e w1 ⟨rfl, hbn⟩
      replace hb := seqB hb hbn
      have hrb := HB.out.below hbn
      clear hbn
      go_wp2_with fail
      refine (implLVb b false B m d _ hlb HM.out hm2 hrb hc2).mono ?_
      rintro e w2 ⟨rfl, hbn⟩
      replace hb := seqB hb hbn
      clear hbn
      go_wp2_with fail
      exact bodyPost_ret (v := .tuple #[.slice none 0 0, .bool false]) (by simp [results, Try.results14, go_sem]) rfl ⟨none, 0, rfl, row_zero, hb⟩
    | true =>
      have hn16 : n ≤ 16 := by have := log_len ha; rw [HN.out] at this; exact this
      have hm16 : m ≤ 16 := by have := log_len hlb; rw [HM.out] at this; exact this
      have HLA := Lib.hid ha; have HLB := Lib.hid hlb; clear ha hlb
      go_enter Try.func14, Try.ntmps14
      go_wp2_with fail
      refine (implLVb a true A n c _ HLA.out HN.out hm HA.out hc).mono ?_
      rintro e w1 ⟨rfl, hbn⟩
      replace hb := seqB hb hbn
      have hra := HA.out.below hbn
      have hrb := HB.out.below hbn
      clear hbn
      go_wp2_with fail
      refine (implLVb b true B m d _ HLB.out HM.out hm2 hrb hc2).mono ?_
      rintro e w2 ⟨rfl, hbn⟩
      replace hb := seqB hb hbn
      replace hra := hra.below hbn
      replace hrb := hrb.below hbn
      clear hbn
      have hz2 : w.heap.size ≤ w2.heap.size := hb.size
      have hrl := rd_new w2 #[.slice A n c, .slice B m d] 26
      replace hb := allocB hb (.cells #[.slice A n c, .slice B m d] 26)
      replace hra := hra.below (allocB (Below.refl _ _) (.cells #[.slice A n c, .slice B m d] 26))
      replace hrb := hrb.below (allocB (Below.refl _ _) (.cells #[.slice A n c, .slice B m d] 26))
      have HRL := Lib.hid hrl; have HRA := Lib.hid hra; have HRB := Lib.hid hrb
      clear hrl hra hrb
      go_wp2_with fail
      have hcat : catE [⟨A, c, a⟩, ⟨B, d, b⟩] = a ++ b := by simp [catE]
      have hcl : (a ++ b).length = n + m := by rw [List.length_append, HN.out, HM.out]
      have hcon := concatE (some ⟨w2.heap.size, 0, none⟩) 2 2 [⟨A, c, a⟩, ⟨B, d, b⟩] _ rfl (by omega) (by rw [hcat, hcl]; omega) (by
          have := HRL.out
          simpa [flatSE, SE.cells, HN.out, HM.out] using this) (by
          intro k hk
          obtain rfl | rfl : k = 0 ∨ k = 1 := by omega
          · exact HRA.out
          · exact HRB.out) (by
          intro k hk
          obtain rfl | rfl : k = 0 ∨ k = 1 := by omega
          · intro e; have := HF1.out e; exact ⟨by show a.length = 0; rw [HN.out]; exact this.1, this.2⟩
          · intro e; have := HF2.out e; exact ⟨by show b.length = 0; rw [HM.out]; exact this.1, this.2⟩)
      rw [hcat, hcl] at hcon
      have HCL := Lib.hid hcl
      have HCON := Lib.hid hcon
      clear hcat hcl hcon
      refine HCON.out.mono ?_
      rintro e w3 ⟨B1, c1, rfl, hr1, hbn⟩
      replace hb := seqB hb hbn
      have HR1 := Lib.hid (row_mono hr1 (show w.heap.size ≤ _ by simp; omega))
      clear hr1 hbn HCON HRL HRA HRB
      go_wp2_with fail
      refine (sortE w.heap.size B1 c1 (n + m) (a ++ b) _ HCL.out (by omega) HR1.out).mono ?_
      rintro e w4 ⟨rfl, r, hmem, hlen, hpw, hr2, hbn⟩
      have HB4 := Lib.hid (hb.trans hbn)
      rw [HCL.out] at hr2 hlen
      have HR2 := Lib.hid hr2; have HLEN := Lib.hid hlen
      have HMS := Lib.hid (merge_sort HLA.out HLB.out (fun x => by rw [hmem x, List.mem_append]) hpw)
      clear hb hbn hmem hlen hpw hr2 HR1
      go_wp2_with fail
      refine (compactE w.heap.size B1 c1 (n + m) r _ HLEN.out (by omega) HR2.out).mono ?_
      rintro e w5 ⟨rfl, hr3, hbn⟩
      have HB5 := Lib.hid (HB4.out.trans hbn)
      have HR3 := Lib.hid hr3
      clear hbn hr3 HR2 HB4
      have hKl : (compE r).length ≤ n + m := by
        rw [← HLEN.out]
        cases r with
        | nil => exact Nat.le_refl _
        | cons x t => exact Nat.succ_le_succ (compFrom_len t x)
      generalize compE r = V at *
      cases hV : logB V with
      | true =>
        have HM2 : Hid (mergeV a b = (V, true)) := by rw [Hid, HMS.out, hV]; rfl
        go_wp2_with fail
        refine (implLVb V true B1 V.length c1 _ hV rfl (by omega) (rd_of_row HR3.out) (row_cap HR3.out)).mono ?_
        rintro e w6 ⟨rfl, hbn⟩
        have HB6 := Lib.hid (seqB HB5.out hbn)
        have HR4 := Lib.hid (row_below HR3.out hbn)
        clear hbn HR3
        go_wp2_with fail
        exact bodyPost_ret (v := .tuple #[.slice B1 V.length c1, .bool true]) (by simp [results, Try.results14, go_sem]) rfl (by rw [HM2.out]; exact ⟨B1, c1, rfl, HR4.out, HB6.out⟩)
      | false =>
        have HM2 : Hid (mergeV a b = ([], false)) := by rw [Hid, HMS.out, hV]; rfl
        go_wp2_with fail
        refine (implLVb V false B1 V.length c1 _ hV rfl (by omega) (rd_of_row HR3.out) (row_cap HR3.out)).mono ?_
        rintro e w6 ⟨rfl, hbn⟩
        have HB6 := Lib.hid (seqB HB5.out hbn)
        clear hbn HR3
        go_wp2_with fail
        exact bodyPost_ret (v := .tuple #[.slice none 0 0, .bool false]) (by simp [results, Try.results14, go_sem]) rfl (by rw [HM2.out]; exact ⟨none, 0, rfl, row_zero, HB6.out⟩)
end Go.Proofs.Ytdlphgknplomkaa
