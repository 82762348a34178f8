/- The contract of the library's Insert at entries. No statement is proved here. -/
import Derived.Test.YtdlphgknplomkaaDoorLogJ
import Derived.Test.YtdlphgknplomkaaDoorCopyN
namespace Go.Proofs.YtdlphgknplomkaaDoor
open Go.RowKit

theorem drewB1 (B : Nat) (w : World) : Below B w w.drew := ⟨rfl, rfl, rfl, Nat.le_refl _, fun _ _ => rfl⟩
def RetIns (E : TypeId) (cs : List Value) (n base : Nat) (w : World) (e : Ending) (w' : World) : Prop :=
  ∃ B c, e = .returned (.slice B n c) ∧ w'.ownsRow base E 4 (.slice B n c) n cs ∧ Below base w w'
theorem rd_box {w : World} {g : Nat} {cs : Array Value} {T : TypeId} (h : Hid (w.heap[g]? = some (.cells cs T (0, 0)))) : Rd w (some ⟨g, 0, none⟩) cs.toList := fun _ =>
  ⟨g, 0, rfl, blk_in h.out, fun k u hu => by rw [Nat.zero_add, boxcellL h k]; simpa using hu⟩

set_option maxRecDepth 100000 in
set_option maxHeartbeats 1000000 in
theorem insE_end (base : Nat) (A : Option Addr) (n d : Nat) (l : List Entry) (t u v x : Int) (vb : Nat) (w : World) (hn : l.length = n) (hm : n ≤ 1048576) (hown : w.ownsRow base 25 4 (.slice A n d) n (flatEntry l)) (hbase : base ≤ w.heap.size)
    (hv : Hid (w.heap[vb]? = some (.cells #[.int .i64 t, .int .i64 u, .int .i64 v, .int .i64 x] 25 (0, 0)))) :
    Calls Tryd.prog 42 #[.slice A n d, .int .i64 n, .slice (some ⟨vb, 0, none⟩) 1 1] w (RetIns 25 (flatEntry (l ++ [⟨t, u, v, x⟩])) (n + 1) base w) := by
  obtain ⟨i0, hi0, hz0, hz1, hz2⟩ := info_parts info_Entry
  have HI := Lib.hid (And.intro hi0 (And.intro hz0 (And.intro hz1 hz2))); clear hi0 hz0 hz1 hz2
  have HN := Lib.hid hn; clear hn
  have HO := Lib.hid hown
  have hlt : ∀ j, some j = (Value.slice A n d).ownBlock → base ≤ j := fun j e => (hown.lt j e.symm).1
  have hcap := row_cap hown
  have hnone := row_none hown
  clear hown
  cases A with
  | none =>
    obtain ⟨rfl, rfl⟩ := hnone rfl
    go_enter Tryd.func42, Tryd.ntmps42
    go_wp2_with (at_builtin; refine wpList_appN _ rfl _ _ _ rfl base 25 i0 _ 4 32 Tryd.underlying23 HI.out rfl (by omega) _ 0 _ rfl HO.out (some ⟨vb, 0, none⟩) 1 1 [.int .i64 t, .int .i64 u, .int .i64 v, .int .i64 x] rfl rfl (rd_box hv) (fun e => by cases e) (by simp [Value.oneCell']) (by omega) (by omega) hbase ?_; intro v' w9 hown9 hg9)
    have hb9 : Below base w w9 := Below.grown (Below.refl base w) hg9 hbase (fun k hk => hlt k hk.symm)
    obtain ⟨B9, d9, rfl, hr9⟩ := row_is (n' := 0 + 1) (cs' := flatEntry (l ++ [⟨t, u, v, x⟩])) hown9 rfl (by simp [flatEntry, Entry.cells])
    go_ret
    exact ⟨B9, d9, rfl, hr9, hb9⟩
  | some a =>
    obtain ⟨g, rfl⟩ : ∃ g, a = ⟨g, 0, none⟩ := by
      rcases HO.out.2 with ⟨e, _⟩ | ⟨g, cap, cur, e, _⟩
      · cases e
      · cases e; exact ⟨g, rfl⟩
    by_cases hcn : d = n
    · subst hcn
      go_enter Tryd.func42, Tryd.ntmps42
      go_wp2_with (at_builtin; refine wpList_appN _ rfl _ _ _ rfl base 25 i0 _ 4 32 Tryd.underlying23 HI.out rfl (by omega) _ d _ rfl HO.out (some ⟨vb, 0, none⟩) 1 1 [.int .i64 t, .int .i64 u, .int .i64 v, .int .i64 x] rfl rfl (rd_box hv) (fun e => by cases e) (by simp [Value.oneCell']) (by omega) (by omega) hbase ?_; intro v' w9 hown9 hg9)
      have hb9 : Below base w w9 := Below.grown (Below.refl base w) hg9 hbase (fun k hk => hlt k hk.symm)
      obtain ⟨B9, d9, rfl, hr9⟩ := row_is (n' := d + 1) (cs' := flatEntry (l ++ [⟨t, u, v, x⟩])) hown9 rfl (by simp [flatEntry, Entry.cells])
      go_ret
      exact ⟨B9, d9, rfl, hr9, hb9⟩
    · go_enter Tryd.func42, Tryd.ntmps42
      go_wp2_with (at_builtin; refine wpList_appN _ rfl _ _ _ rfl base 25 i0 _ 4 32 Tryd.underlying23 HI.out rfl (by omega) _ n _ rfl HO.out (some ⟨vb, 0, none⟩) 1 1 [.int .i64 t, .int .i64 u, .int .i64 v, .int .i64 x] rfl rfl (rd_box hv) (fun e => by cases e) (by simp [Value.oneCell']) (by omega) (by omega) hbase ?_; intro v' w9 hown9 hg9)
      have hb9 : Below base w w9 := Below.grown (Below.refl base w) hg9 hbase (fun k hk => hlt k hk.symm)
      obtain ⟨B9, d9, rfl, hr9⟩ := row_is (n' := n + 1) (cs' := flatEntry (l ++ [⟨t, u, v, x⟩])) hown9 rfl (by simp [flatEntry, Entry.cells])
      go_ret
      exact ⟨B9, d9, rfl, hr9, hb9⟩
theorem flatE_split (l : List Entry) (i : Nat) : flatEntry l = flatEntry (l.take i) ++ flatEntry (l.drop i) := by rw [flatE_app, List.take_append_drop]
theorem row_rest {w : World} {base n d g : Nat} {E : TypeId} {cs : List Value} (h : w.ownsRow base E 4 (.slice (some ⟨g, 0, none⟩) n d) n cs) :
    ∃ Z : List Value, w.heap[g]? = some (.cells (cs ++ Z).toArray E (0, 0)) ∧ base ≤ g ∧ (cs ++ Z).length = d * 4 ∧ d ≤ maxLen := by
  rcases h.2 with ⟨e, _⟩ | ⟨g', cap, cur, e, hge, hg, hn, hm, hz, ht⟩
  · cases e
  · cases e
    have e1 : cs ++ cur.toList.drop (n * 4) = cur.toList := by rw [← ht, List.take_append_drop]
    refine ⟨cur.toList.drop (n * 4), ?_, hge, ?_, hm⟩
    · rw [e1, Array.toArray_toList]; exact hg
    · rw [e1, Array.length_toList]; exact hz
theorem copy_src {w : World} {g i : Nat} {X Y Z : List Value} {E : TypeId} (hg : w.heap[g]? = some (.cells (X ++ (Y ++ Z)).toArray E (0, 0))) (hX : X.length = i * 4) : ∀ j v, Y[j]? = some v → w.cell? ((⟨g, i * 4, none⟩ : Addr).add j) = some v := by
  intro j v hj
  have hadd : (⟨g, i * 4, none⟩ : Addr).add j = ⟨g, i * 4 + j, none⟩ := by unfold Addr.add; split <;> simp_all
  have hjl : j < Y.length := by
    rcases Nat.lt_or_ge j Y.length with h | h
    · exact h
    · rw [List.getElem?_eq_none h] at hj; cases hj
  rw [hadd, cell_of_row w g _ _ E (0, 0) hg, List.getElem?_toArray, ← hX, List.getElem?_append_right (by omega), Nat.add_sub_cancel_left, List.getElem?_append_left hjl]
  exact hj
theorem box_src {w : World} {g : Nat} {cs : List Value} {T : TypeId} (h : Hid (w.heap[g]? = some (.cells cs.toArray T (0, 0)))) : ∀ j v, cs[j]? = some v → w.cell? ((⟨g, 0, none⟩ : Addr).add j) = some v := by
  intro j v hj
  have hadd : (⟨g, 0, none⟩ : Addr).add j = ⟨g, 0 + j, none⟩ := by unfold Addr.add; split <;> simp_all
  rw [hadd, cell_of_row w g _ _ T (0, 0) h.out, List.getElem?_toArray, Nat.zero_add]
  exact hj
theorem own_of_cells {w : World} {base g n d : Nat} {E : TypeId} {cs cs' R : List Value} (h : w.heap[g]? = some (.cells (cs' ++ R).toArray E (0, 0))) (hb : base ≤ g) (hd : n ≤ d) (hm : d ≤ maxLen) (hl : (cs' ++ R).length = d * 4) (hl' : cs'.length = n * 4) (he : cs' = cs) :
    w.ownsRow base E 4 (.slice (some ⟨g, 0, none⟩) n d) n cs := by
  subst he
  exact ⟨hl', .inr ⟨g, d, _, rfl, hb, h, hd, hm, by rw [List.size_toArray, hl], by rw [← hl']; simp⟩⟩
theorem arr3 (X : List Value) (A B : Array Value) : (X ++ A.toList ++ B.toList).toArray = X.toArray ++ A ++ B := by apply Array.ext'; simp
theorem over_no (vb g off lb cb : Nat) (w : World) (hne : vb ≠ g) (V cur : Array Value) (hv : w.heap[vb]? = some (.cells V 25 (0, 0))) (hg : w.heap[g]? = some (.cells cur 25 (0, 0))) (hz : cur.size ≠ 0) :
    (callFunc 56 #[.slice (some ⟨vb, 0, none⟩) 1 1, .slice (some ⟨g, off, none⟩) lb cb]).run Tryd.prog w = .ok (.value (.bool false)) w := by
  have hsz : ∀ w, (Go.sizeOf 25).run Tryd.prog w = .ok 4 w := fun w => by
    obtain ⟨i0, hi0, hz0, hz1, hz2⟩ := info_parts info_Entry
    simp [sizeOf, typeInfo, hi0, hz1]
  rw [run_callFunc_extern Tryd.func56 (by kernel_rfl) (by kernel_rfl) (by kernel_rfl) (e := Extern.SlicesOverlaps.overlaps #[23, 23] #[4]) (by kernel_rfl),
      Lib.run_overlaps_apart w 23 4 25 Tryd.underlying23 4 hsz ⟨vb, 0, none⟩ ⟨g, off, none⟩ 1 1 lb cb hne 25 25 V.size cur.size (by simp [World.shape?, hv]) (by simp [World.shape?, hg]) hz (by simp [World.frozen?, hv]) (by simp [World.frozen?, hv])]
  rfl
set_option maxRecDepth 100000 in
set_option maxHeartbeats 2000000 in
theorem insE_room (base g n d i : Nat) (l : List Entry) (t u v x : Int) (vb : Nat) (w : World) (hn : l.length = n) (hm : n ≤ 1048576) (hown : w.ownsRow base 25 4 (.slice (some ⟨g, 0, none⟩) n d) n (flatEntry l)) (hi : i < n) (hd : n + 1 ≤ d)
    (hv : Hid (w.heap[vb]? = some (.cells #[.int .i64 t, .int .i64 u, .int .i64 v, .int .i64 x] 25 (0, 0)))) (hne : vb ≠ g) :
    Calls Tryd.prog 42 #[.slice (some ⟨g, 0, none⟩) n d, .int .i64 i, .slice (some ⟨vb, 0, none⟩) 1 1] w (RetIns 25 (flatEntry (l.take i ++ ⟨t, u, v, x⟩ :: l.drop i)) (n + 1) base w) := by
  obtain ⟨i0, hi0, hz0, hz1, hz2⟩ := info_parts info_Entry
  have HI := Lib.hid (And.intro hi0 (And.intro hz0 (And.intro hz1 hz2))); clear hi0 hz0 hz1 hz2
  have HN := Lib.hid hn; clear hn
  obtain ⟨Z, hg, hbg, hzl, hd63⟩ := row_rest hown
  clear hown
  rw [flatE_split l i, List.append_assoc] at hg hzl
  obtain ⟨X, hX⟩ : ∃ X, X = flatEntry (l.take i) := ⟨_, rfl⟩
  obtain ⟨Y, hY⟩ : ∃ Y, Y = flatEntry (l.drop i) := ⟨_, rfl⟩
  rw [← hX, ← hY] at hg hzl
  have hXl : X.length = i * 4 := by rw [hX, flatE_len _ i (by rw [List.length_take, HN.out]; omega)]
  have hYl : Y.length = (n - i) * 4 := by rw [hY, flatE_len _ (n - i) (by rw [List.length_drop, HN.out])]
  have hY1 : ∀ u ∈ Y, u.oneCell' = true := hY ▸ flatE_one _
  have HG := Lib.hid hg; have HX := Lib.hid hX; have HY := Lib.hid hY; have HXL := Lib.hid hXl; have HYL := Lib.hid hYl; have HZL := Lib.hid hzl; have HY1 := Lib.hid hY1
  have hov : ∀ off lb cb, (callFunc 56 #[.slice (some ⟨vb, 0, none⟩) 1 1, .slice (some ⟨g, off, none⟩) lb cb]).run Tryd.prog w = .ok (.value (.bool false)) w := fun off lb cb =>
    over_no vb g off lb cb w hne _ _ hv.out hg (by simp only [List.size_toArray]; rw [hzl]; omega)
  have HGD : Hid (w.drew.heap[g]? = some (.cells (X ++ (Y ++ Z)).toArray 25 (0, 0))) := hg
  have HSZ : Hid ((Tryd.prog.info? 25).map (·.size) = some 4) := by rw [Hid, HI.out.1]; simp [HI.out.2.2.1]
  clear hg hX hY hXl hYl hzl hY1
  have hz2 : ¬ ((i : Int) = (n : Int)) := by omega
  have hin : i ≤ n := by omega
  have hb2 : ¬ (d = i + 1) := by omega
  have hb3 : (i : Int) ≤ (n : Int) + 1 := by omega
  have hb4 : ¬ (d = i) := by omega
  have hw1 : IntKind.i64.wrap ((i : Int) + 1) = (i : Int) + 1 := by rw [IntKind.wrap_i64]; omega
  have hb1 : (0 : Int) ≤ (i : Int) + 1 := by omega
  have htn : ((i : Int) + 1).toNat = i + 1 := by omega
  go_enter Tryd.func42, Tryd.ntmps42
  go_wp2_with (simp only [hov])
  go_region_law (refine step_copy_spliceN (w := w.drew) rfl _ _ 23 23 rfl 25 4 (n - i) Tryd.underlying23 HSZ.out g ((i + 1) * 4) (n - i) (d - (i + 1)) ⟨g, i * 4, none⟩ (n + 1 - i) (d - i) (by simp [Act.eval, Act.put]) (by simp [Act.eval, Act.put]) (X ++ (Y ++ Z)) 25 HGD.out Y (by simp only [Nat.min_def]; split <;> omega) HYL.out (copy_src HGD.out HXL.out) (by have := HXL.out; have := HYL.out; have := HZL.out; rw [this]; omega) HY1.out base w (drewB1 base w) hbg ?_; intro w4 hg4 hb4 ho4)
  have hv4 : Hid (w4.heap[vb]? = some (.cells #[.int .i64 t, .int .i64 u, .int .i64 v, .int .i64 x] 25 (0, 0))) := (ho4.out vb hne).trans hv.out
  clear hov
  go_wp2_with (refine wpList_copy_spliceN rfl _ _ 23 23 rfl 25 4 1 Tryd.underlying23 HSZ.out g (i * 4) (n + 1 - i) (d - i) ⟨vb, 0, none⟩ 1 1 rfl rfl (splice (X ++ (Y ++ Z)) ((i + 1) * 4) Y) 25 hg4.out [.int .i64 t, .int .i64 u, .int .i64 v, .int .i64 x] (by simp only [Nat.min_def]; split <;> omega) rfl (box_src hv4) (by have := HXL.out; have := HYL.out; have := HZL.out; rw [splice_len _ _ _ (by omega)]; simp only [List.length_cons, List.length_nil]; omega) (by simp [Value.oneCell']) base w hb4 hbg ?_; intro w5 hg5 hb5 ho5)
  go_ret
  have hlen := HZL.out
  have hxl := HXL.out
  have hyl := HYL.out
  have hsp := splice_room X Y [.int .i64 t, .int .i64 u, .int .i64 v, .int .i64 x] Z (i * 4) 4 hxl.symm rfl (by simp only [List.length_append] at hlen; simp only [List.length_cons, List.length_nil]; omega)
  have hfin := hg5.out
  rw [show (i + 1) * 4 = i * 4 + 4 by omega, hsp, HX.out, HY.out] at hfin
  refine ⟨some ⟨g, 0, none⟩, d, rfl, own_of_cells hfin hbg hd hd63 (by rw [List.length_append, List.length_append] at hlen; rw [← HX.out, ← HY.out]; simp only [List.length_append, List.length_drop, List.length_cons, List.length_nil]; omega) ?_ (by simp [flatEntry, Entry.cells]), hb5⟩
  rw [← HX.out, ← HY.out]; simp only [List.length_append, List.length_cons, List.length_nil]; omega
set_option maxRecDepth 100000 in
set_option maxHeartbeats 2000000 in
theorem insE_grow (base g n d i : Nat) (l : List Entry) (t u v x : Int) (vb : Nat) (w : World) (hn : l.length = n) (hm : n ≤ 1048576) (hown : w.ownsRow base 25 4 (.slice (some ⟨g, 0, none⟩) n d) n (flatEntry l)) (hbase : base ≤ w.heap.size) (hi : i < n) (hd : d < n + 1)
    (hv : Hid (w.heap[vb]? = some (.cells #[.int .i64 t, .int .i64 u, .int .i64 v, .int .i64 x] 25 (0, 0)))) :
    Calls Tryd.prog 42 #[.slice (some ⟨g, 0, none⟩) n d, .int .i64 i, .slice (some ⟨vb, 0, none⟩) 1 1] w (RetIns 25 (flatEntry (l.take i ++ ⟨t, u, v, x⟩ :: l.drop i)) (n + 1) base w) := by
  obtain ⟨i0, hi0, hz0, hz1, hz2⟩ := info_parts info_Entry
  have HI := Lib.hid (And.intro hi0 (And.intro hz0 (And.intro hz1 hz2)))
  have HN := Lib.hid hn; clear hn
  have hnd := row_cap hown
  obtain ⟨Z, hg, hbg, hzl, hd63⟩ := row_rest hown
  clear hown
  rw [flatE_split l i, List.append_assoc] at hg hzl
  obtain ⟨X, hX⟩ : ∃ X, X = flatEntry (l.take i) := ⟨_, rfl⟩
  obtain ⟨Y, hY⟩ : ∃ Y, Y = flatEntry (l.drop i) := ⟨_, rfl⟩
  rw [← hX, ← hY] at hg hzl
  have hXl : X.length = i * 4 := by rw [hX, flatE_len _ i (by rw [List.length_take, HN.out]; omega)]
  have hYl : Y.length = (n - i) * 4 := by rw [hY, flatE_len _ (n - i) (by rw [List.length_drop, HN.out])]
  have hY1 : ∀ u ∈ Y, u.oneCell' = true := hY ▸ flatE_one _
  have hgw : g < w.heap.size := blk_in hg
  have hvw : vb < w.heap.size := blk_in hv.out
  have hold : (Builtin.firstCells i0.size i (.slice (some ⟨g, 0, none⟩) i d)).run Tryd.prog w.drew = .ok X.toArray w.drew := by
    rw [hz1]
    refine run_firstCells_some w.drew 4 i ⟨g, 0, none⟩ i d X hXl fun j u hj => ?_
    have hjl : j < X.length := by
      rcases Nat.lt_or_ge j X.length with h | h
      · exact h
      · rw [List.getElem?_eq_none h] at hj; cases hj
    have hadd : (⟨g, 0, none⟩ : Addr).add j = ⟨g, 0 + j, none⟩ := by unfold Addr.add; split <;> simp_all
    rw [hadd, cell_of_row w.drew g _ _ _ (0, 0) hg, List.getElem?_toArray, Nat.zero_add, List.getElem?_append_left hjl]
    exact hj
  obtain ⟨C, hC⟩ : ∃ C, C = grownCap w (n + 1) d 25 := ⟨_, rfl⟩
  obtain ⟨ZZ, hZZ⟩ : ∃ ZZ : List Value, ZZ = (Builtin.zeroCells (Value.agg #[.int .i64 0, .int .i64 0, .int .i64 0, .int .i64 0]).cells (n + 1 - i)).toList := ⟨_, rfl⟩
  obtain ⟨R, hR⟩ : ∃ R : List Value, R = (Builtin.zeroCells (Value.agg #[.int .i64 0, .int .i64 0, .int .i64 0, .int .i64 0]).cells (C - (n + 1))).toList := ⟨_, rfl⟩
  have hCn : n + 1 ≤ C := by rw [hC]; exact grownCap_ge w _ _ _
  have hCm : C ≤ maxLen := by rw [hC]; exact grownCap_le_maxLen w (n + 1) d _ (by unfold maxLen; omega)
  have hZZl : ZZ.length = (n + 1 - i) * 4 := by rw [hZZ]; simp [Builtin.zeroCells, Value.cells]
  have hRl : R.length = (C - (n + 1)) * 4 := by rw [hR]; simp [Builtin.zeroCells, Value.cells]
  have hrz : ∀ ty, (Builtin.append_ #[23, 3] ty #[.slice (some ⟨g, 0, none⟩) i d, .int .i64 ((n : Int) + 1 - (i : Int))]).run Tryd.prog w =
      .ok (.slice (some ⟨w.heap.size, 0, none⟩) (n + 1) C) (w.drew.alloc (.cells (X ++ ZZ ++ R).toArray 25)) := fun ty => by
    have h := Lib.run_append_grow_zeros w 23 3 ty 25 i0 _ .i64 .i64 Tryd.underlying23 Tryd.underlying3 hi0 hz0 (some ⟨g, 0, none⟩) i d X hold (n + 1 - i) (by omega) (by omega) (by omega) (by omega) (by rw [hz2]; omega) (by rw [hz2]; exact growslice_fits (by omega) (by omega))
    rw [show i + (n + 1 - i) = n + 1 by omega, ← hC] at h
    rw [show (n : Int) + 1 - (i : Int) = ((n + 1 - i : Nat) : Int) by omega, h, hZZ, hR, arr3]
  have hmin : Nat.min 1 (n + 1 - i) = 1 := by simp only [Nat.min_def]; split <;> omega
  have hminB : Nat.min (n - i) (n - i) = n - i := Nat.min_self _
  have HGD : Hid (w.drew.heap[g]? = some (.cells (X ++ (Y ++ Z)).toArray 25 (0, 0))) := hg
  have HSZ : Hid ((Tryd.prog.info? 25).map (·.size) = some 4) := by rw [Hid, HI.out.1]; simp [HI.out.2.2.1]
  have HX := Lib.hid hX; have HY := Lib.hid hY; have HXL := Lib.hid hXl; have HYL := Lib.hid hYl; have HY1 := Lib.hid hY1; have HZZL := Lib.hid hZZl; have HRL := Lib.hid hRl; have HMIN := Lib.hid hmin
  obtain ⟨W1, hW1⟩ : ∃ W1, W1 = w.drew.alloc (.cells (X ++ ZZ ++ R).toArray 25) := ⟨_, rfl⟩
  have hb1 : Below base w W1 := hW1 ▸ (Below.trans (drewB1 base w) ⟨rfl, rfl, rfl, by simp, fun k hk => Below.heap_alloc _ _ _ (by show k < w.heap.size; omega)⟩)
  have HB1 := Lib.hid hb1
  have HG1 : Hid (W1.heap[w.heap.size]? = some (.cells (X ++ ZZ ++ R).toArray 25 (0, 0))) := hW1 ▸ heap_alloc_new w.drew _
  have HV1 : Hid (W1.heap[vb]? = some (.cells #[.int .i64 t, .int .i64 u, .int .i64 v, .int .i64 x] 25 (0, 0))) := hW1 ▸ (Below.heap_alloc w.drew _ vb hvw).trans hv.out
  have HO1 : Hid (W1.heap[g]? = some (.cells (X ++ (Y ++ Z)).toArray 25 (0, 0))) := hW1 ▸ (Below.heap_alloc w.drew _ g hgw).trans hg
  rw [← hW1] at hrz
  have hzC : ¬ (C = i) := by omega
  have hzC2 : ¬ (C = i + 1) := by omega
  have hdi : ¬ (d = i) := by omega
  have hz2 : ¬ ((i : Int) = (n : Int)) := by omega
  have hz3 : (d : Int) < (n : Int) + 1 := by omega
  have hin : i ≤ n := by omega
  have hb3 : (i : Int) ≤ (n : Int) + 1 := by omega
  have hb3' : (i : Int) ≤ (n : Int) := by omega
  have hw1 : IntKind.i64.wrap ((i : Int) + 1) = (i : Int) + 1 := by rw [IntKind.wrap_i64]; omega
  have hbn : (0 : Int) ≤ (i : Int) + 1 := by omega
  have htn : ((i : Int) + 1).toNat = i + 1 := by omega
  clear hg hX hY hXl hYl hzl hY1 hZZl hRl hmin hminB hold hC hZZ hR hW1 hb1 hi0 hz0 hz1
  go_enter Tryd.func42, Tryd.ntmps42
  go_wp2_with (first
    | (at_builtin; refine Lib.wpList_append_run _ rfl _ _ _ _ rfl _ _ rfl rfl _ _ (hrz _) ?_)
    | (refine wpList_copy_spliceN rfl _ _ 23 23 rfl 25 4 1 Tryd.underlying23 HSZ.out w.heap.size (i * 4) (n + 1 - i) (C - i) ⟨vb, 0, none⟩ 1 1 rfl rfl (X ++ ZZ ++ R) 25 HG1.out [.int .i64 t, .int .i64 u, .int .i64 v, .int .i64 x] HMIN.out rfl (box_src HV1) (by have := HXL.out; have := HZZL.out; simp only [List.length_append, List.length_cons, List.length_nil]; omega) (by simp [Value.oneCell']) base w HB1.out hbase ?_; intro w4 hg4 hb4 ho4))
  have HG4 : Hid (w4.drew.heap[w.heap.size]? = some (.cells (splice (X ++ ZZ ++ R) (i * 4) [.int .i64 t, .int .i64 u, .int .i64 v, .int .i64 x]).toArray 25 (0, 0))) := hg4.out
  have HO4 : Hid (w4.drew.heap[g]? = some (.cells (X ++ (Y ++ Z)).toArray 25 (0, 0))) := (ho4.out g (by omega)).trans HO1.out
  have HB4 : Hid (Below base w w4.drew) := hb4.trans (drewB1 base w4)
  have HMB : Hid (Nat.min (n - i) (n - i) = n - i) := Nat.min_self _
  clear hrz hg4 ho4
  go_region_law (refine step_copy_spliceN (w := w4.drew) rfl _ _ 23 23 rfl 25 4 (n - i) Tryd.underlying23 HSZ.out w.heap.size ((i + 1) * 4) (n - i) (C - (i + 1)) ⟨g, i * 4, none⟩ (n - i) (d - i) (by simp [Act.eval, Act.put]) (by simp [Act.eval, Act.put]) (splice (X ++ ZZ ++ R) (i * 4) [.int .i64 t, .int .i64 u, .int .i64 v, .int .i64 x]) 25 HG4.out Y HMB.out HYL.out (copy_src HO4.out HXL.out) (by have := HXL.out; have := HZZL.out; have := HYL.out; rw [splice_len _ _ _ (by simp only [List.length_append, List.length_cons, List.length_nil]; omega)]; simp only [List.length_append]; omega) HY1.out base w HB4.out hbase ?_; intro w5 hg5 hb5 ho5)
  go_wp2_with fail
  go_ret
  have hxl := HXL.out
  have hyl := HYL.out
  have hzz := HZZL.out
  have hrl := HRL.out
  have hsp := splice_grow X Y [.int .i64 t, .int .i64 u, .int .i64 v, .int .i64 x] ZZ R (i * 4) 4 hxl.symm rfl (by simp only [List.length_cons, List.length_nil]; omega)
  have hfin := hg5.out
  rw [show (i + 1) * 4 = i * 4 + 4 by omega, hsp, HX.out, HY.out] at hfin
  refine ⟨some ⟨w.heap.size, 0, none⟩, C, rfl, own_of_cells hfin hbase hCn hCm ?_ ?_ (by simp [flatEntry, Entry.cells]), hb5⟩
  · rw [← HX.out, ← HY.out]; simp only [List.length_append, List.length_cons, List.length_nil]; omega
  · rw [← HX.out, ← HY.out]; simp only [List.length_append, List.length_cons, List.length_nil]; omega
theorem insertE (base : Nat) (A : Option Addr) (n d i : Nat) (l : List Entry) (t u v x : Int) (vb : Nat) (w : World) (hn : l.length = n) (hm : n ≤ 1048576) (hown : w.ownsRow base 25 4 (.slice A n d) n (flatEntry l)) (hbase : base ≤ w.heap.size) (hi : i ≤ n)
    (hv : Hid (w.heap[vb]? = some (.cells #[.int .i64 t, .int .i64 u, .int .i64 v, .int .i64 x] 25 (0, 0)))) (hne : ∀ g, A = some ⟨g, 0, none⟩ → vb ≠ g) :
    Calls Tryd.prog 42 #[.slice A n d, .int .i64 i, .slice (some ⟨vb, 0, none⟩) 1 1] w (RetIns 25 (flatEntry (l.take i ++ ⟨t, u, v, x⟩ :: l.drop i)) (n + 1) base w) := by
  by_cases hin : i = n
  · subst hin
    rw [List.take_of_length_le (by omega), List.drop_eq_nil_of_le (by omega)]
    exact insE_end base A i d l t u v x vb w hn hm hown hbase hv
  · have hlt : i < n := by omega
    obtain ⟨g, rfl⟩ : ∃ g, A = some ⟨g, 0, none⟩ := by
      rcases hown.2 with ⟨e, e2⟩ | ⟨g, cap, cur, e, _⟩
      · omega
      · cases e; exact ⟨g, rfl⟩
    by_cases hd : n + 1 ≤ d
    · exact insE_room base g n d i l t u v x vb w hn hm hown hlt hd hv (hne g rfl)
    · exact insE_grow base g n d i l t u v x vb w hn hm hown hbase hlt (by omega) hv
end Go.Proofs.YtdlphgknplomkaaDoor
