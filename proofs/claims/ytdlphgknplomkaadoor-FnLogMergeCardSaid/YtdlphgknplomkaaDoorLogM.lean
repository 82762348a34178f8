/- The contract of the program's LogPut. No statement is proved here. -/
import Derived.Test.YtdlphgknplomkaaDoorLogK
import Derived.Deep.RegionLaw
namespace Go.Proofs.YtdlphgknplomkaaDoor
open Go.RowKit
theorem implLVb (l : List Entry) (r : Bool) (A : Option Addr) (n c : Nat) (w : World) (h : logB l = r) (hn : l.length = n) (hm : n ≤ 1048576) (hA : Rd w A (flatEntry l)) (hcap : n ≤ c) :
    Calls Tryd.prog 15 #[.slice A n c] w fun e w' => e = .returned (.bool r) ∧ Below w.heap.size w w' := by
  subst h; exact implLV A n c l w hn hm hA hcap
theorem containsEb (l : List Entry) (r : Bool) (A : Option Addr) (n c : Nat) (t u v x : Int) (w : World) (h : l.any (eqE ⟨t, u, v, x⟩) = r) (hn : l.length = n) (hm : n ≤ 1048576) (hA : Rd w A (flatEntry l)) :
    Calls Tryd.prog 38 #[.slice A n c, .agg #[.int .i64 t, .int .i64 u, .int .i64 v, .int .i64 x]] w fun e w' => e = .returned (.bool r) ∧ Below w.heap.size w w' := by
  subst h; exact containsE A n c l t u v x w hn hm hA
theorem row_blk {w : World} {base n d g : Nat} {E : TypeId} {cs : List Value} (h : w.ownsRow base E 4 (.slice (some ⟨g, 0, none⟩) n d) n cs) : base ≤ g ∧ g < w.heap.size := by
  rcases h.2 with ⟨e, _⟩ | ⟨g', cap, cur, e, hge, hg, hn, hm, hz, ht⟩
  · cases e
  · cases e; exact ⟨hge, blk_in hg⟩
theorem below_into {B : Nat} {a b c : World} (h : Below B a b) (k : Below b.heap.size b c) (hB : B ≤ b.heap.size) : Below B a c := h.trans (k.mono hB)

set_option maxRecDepth 100000 in
set_option maxHeartbeats 4000000 in
theorem implLP (A : Option Addr) (n c : Nat) (l : List Entry) (t u v x : Int) (w : World) (hn : l.length = n) (hm : n ≤ 1048576) (hcap : n ≤ c) (hF : A = none ∧ c = 0 ∨ ∃ g, A = some ⟨g, 0, none⟩) (hA : Rd w A (flatEntry l)) :
    Calls Tryd.prog 10 #[.slice A n c, .agg #[.int .i64 t, .int .i64 u, .int .i64 v, .int .i64 x]] w (RetLP l ⟨t, u, v, x⟩ w) := by
  have HA := Lib.hid hA; clear hA
  have HN := Lib.hid hn; clear hn
  have HF := Lib.hid hF; clear hF
  have hb := allocB (Below.refl w.heap.size w) (.cells #[.int .i64 t, .int .i64 u, .int .i64 v, .int .i64 x] 25)
  have BE := newboxL w (.cells #[.int .i64 t, .int .i64 u, .int .i64 v, .int .i64 x] 25)
  go_enter Tryd.func10, Tryd.ntmps10
  go_wp2_with fail
  refine (implLV A n c l _ HN.out (by omega) (HA.out.below hb) hcap).mono ?_
  rintro e w1 ⟨rfl, hbn⟩
  replace hb := seqB hb hbn
  replace BE := be_boxL BE hbn
  clear hbn
  cases hv : logB l with
  | false =>
    go_wp2_with fail
    exact bodyPost_ret (v := .tuple #[.slice none 0 0, .bool false]) (by simp [results, Tryd.results10, go_sem]) rfl (retLP (put_no hv) rfl row_zero hb)
  | true =>
  have hn16 : n ≤ 16 := by have := log_len hv; have := HN.out; omega
  have HV := Lib.hid hv; clear hv
  have e0 := boxcellL BE 0; have e1 := boxcellL BE 1; have e2 := boxcellL BE 2; have e3 := boxcellL BE 3
  simp at e0 e1 e2 e3
  go_wp2_with fail
  cases hc : l.any (eqE ⟨t, u, v, x⟩) with
  | true =>
    have HC := Lib.hid hc; clear hc
    refine (containsEb l true A n c t u v x _ HC.out HN.out (by omega) (HA.out.below hb)).mono ?_
    rintro e w2 ⟨rfl, hbn⟩
    replace hb := seqB hb hbn
    clear hbn e0 e1 e2 e3 BE
    go_wp2_with fail
    refine (cloneE A n c l w2 HN.out (by omega) HF.out hcap (HA.out.below hb)).mono ?_
    rintro e w3 ⟨B3, d3, rfl, hr3, hb3⟩
    have HR3 := Lib.hid (row_mono hr3 hb.size); clear hr3
    replace hb := below_into hb hb3 hb.size
    clear hb3
    go_wp2_with fail
    exact bodyPost_ret (v := .tuple #[.slice B3 n d3, .bool true]) (by simp [results, Tryd.results10, go_sem]) rfl (retLP (put_has HV.out ((any_eqE l _).1 HC.out)) HN.out HR3.out hb)
  | false =>
  have HC := Lib.hid hc; clear hc
  refine (containsEb l false A n c t u v x _ HC.out HN.out (by omega) (HA.out.below hb)).mono ?_
  rintro e w2 ⟨rfl, hbn⟩
  replace hb := seqB hb hbn
  replace BE := be_boxL BE hbn
  clear hbn e0 e1 e2 e3
  have e0 := boxcellL BE 0; have e1 := boxcellL BE 1; have e2 := boxcellL BE 2; have e3 := boxcellL BE 3
  simp at e0 e1 e2 e3
  go_wp2_with fail
  refine (bsE A n c l t u v x w2 HN.out (by omega) (log_asc HV.out) (HA.out.below hb)).mono ?_
  rintro e w3 ⟨k, f, rfl, hk, hl1, hl2, hbn⟩
  replace hb := seqB hb hbn
  replace BE := be_boxL BE hbn
  clear hbn e0 e1 e2 e3
  have hins : insE l ⟨t, u, v, x⟩ = l.take k ++ ⟨t, u, v, x⟩ :: l.drop k := by
    have h := insE_at (e := ⟨t, u, v, x⟩) (by rw [HN.out]; exact hk) hl1 (by
      by_cases hkn : k = n
      · exact .inl (by rw [hkn, HN.out])
      · exact .inr (hl2 k (Nat.le_refl _) (by omega)))
    rw [h]; simp
  have HIN := Lib.hid hins
  clear hins hl1 hl2

  have BED : Hid (w3.drew.heap[w.heap.size]? = some (.cells #[.int .i64 t, .int .i64 u, .int .i64 v, .int .i64 x] 25 (0, 0))) := BE
  have e0 := boxcellL BED 0; have e1 := boxcellL BED 1; have e2 := boxcellL BED 2; have e3 := boxcellL BED 3
  simp at e0 e1 e2 e3
  have a0 := boxcellL (be_boxL BED (allocB (Below.refl _ _) (.cells #[.int .i64 t, .int .i64 u, .int .i64 v, .int .i64 x] 25))) 0; have a1 := boxcellL (be_boxL BED (allocB (Below.refl _ _) (.cells #[.int .i64 t, .int .i64 u, .int .i64 v, .int .i64 x] 25))) 1; have a2 := boxcellL (be_boxL BED (allocB (Below.refl _ _) (.cells #[.int .i64 t, .int .i64 u, .int .i64 v, .int .i64 x] 25))) 2; have a3 := boxcellL (be_boxL BED (allocB (Below.refl _ _) (.cells #[.int .i64 t, .int .i64 u, .int .i64 v, .int .i64 x] 25))) 3
  simp at a0 a1 a2 a3
  have hbd : Below w.heap.size w w3.drew := hb.trans (drewB1 _ _)
  have hbe : Below w.heap.size w (w3.drew.alloc (.cells #[.int .i64 t, .int .i64 u, .int .i64 v, .int .i64 x] 25)) := allocB hbd _
  have HBD := Lib.hid hbd; have HBE := Lib.hid hbe
  have HS3 : Hid (w.heap.size ≤ w3.heap.size) := hb.size
  have HPA := Lib.hid (cloneE A n c l w3.drew HN.out (by omega) HF.out hcap (HA.out.below hbd))
  have HPB : Hid (Calls Tryd.prog 39 #[.slice A n c] (w3.alloc (.cells #[.int .i64 t, .int .i64 u, .int .i64 v, .int .i64 x] 25)).drew (RetRow 25 4 (flatEntry l) n (w3.drew.alloc (.cells #[.int .i64 t, .int .i64 u, .int .i64 v, .int .i64 x] 25)))) := Lib.hid (cloneE A n c l (w3.drew.alloc (.cells #[.int .i64 t, .int .i64 u, .int .i64 v, .int .i64 x] 25)) HN.out (by omega) HF.out hcap (HA.out.below hbe))
  clear hbd hbe hb
  have hwk : IntKind.i64.wrap (k : Int) = (k : Int) := by rw [IntKind.wrap_i64]; omega

  go_wp2_with fail
  go_region_law (first | (go_simp; go_at_call 42; refine Calls.mono (by with_reducible exact HINS.out) ?_; rintro e w8 ⟨B8, d8, rfl, hr8, hb8⟩; have HR8 := Lib.hid hr8; have HB8 := Lib.hid (HBX.out.trans hb8); clear HINS HBX hr8 hb8) | (go_simp; go_at_call 39; refine Calls.mono (by with_reducible exact HPA.out) ?_; rintro e w6 ⟨B6, d6, rfl, hr6, hb6⟩; have hm6 := row_mono hr6 HS3.out; have HB6 := Lib.hid (below_into HBD.out hb6 (Nat.le_trans HS3.out (Nat.le_refl w3.heap.size))); have BE6 := be_boxL BED hb6; have q0 := boxcellL BE6 0; have q1 := boxcellL BE6 1; have q2 := boxcellL BE6 2; have q3 := boxcellL BE6 3; simp at q0 q1 q2 q3; have HBX : Hid (Below w.heap.size w (w6.alloc (.cells #[.int .i64 t, .int .i64 u, .int .i64 v, .int .i64 x] 25))) := allocB HB6.out _; have HINS : Hid (Calls Tryd.prog 42 #[.slice B6 n d6, .int .i64 k, .slice (some ⟨w6.heap.size, 0, none⟩) 1 1] (w6.alloc (.cells #[.int .i64 t, .int .i64 u, .int .i64 v, .int .i64 x] 25)) (RetIns 25 (flatEntry (l.take k ++ ⟨t, u, v, x⟩ :: l.drop k)) (n + 1) w.heap.size (w6.alloc (.cells #[.int .i64 t, .int .i64 u, .int .i64 v, .int .i64 x] 25)))) := insertE w.heap.size B6 n d6 k l t u v x w6.heap.size (w6.alloc (.cells #[.int .i64 t, .int .i64 u, .int .i64 v, .int .i64 x] 25)) HN.out (by omega) (hm6.alloc _) HBX.out.size hk (newboxL w6 _) (fun g e => by subst e; have := (row_blk hm6).2; omega); clear hr6 hb6 hm6 HPA HPB a0 a1 a2 a3 e0 e1 e2 e3) | (go_simp; go_at_call 39; refine Calls.mono (by with_reducible exact HPB.out) ?_; rintro e w6 ⟨B6, d6, rfl, hr6, hb6⟩; have hm6 : w6.ownsRow (w3.heap.size + 1) 25 4 (.slice B6 n d6) n (flatEntry l) := row_mono hr6 (by simp); have HBX : Hid (Below w.heap.size w w6) := below_into HBE.out hb6 HBE.out.size; have BL6 : Hid (w6.heap[w3.heap.size]? = some (.cells #[.int .i64 t, .int .i64 u, .int .i64 v, .int .i64 x] 25 (0, 0))) := be_boxL (newboxL w3.drew _) hb6; have HINS : Hid (Calls Tryd.prog 42 #[.slice B6 n d6, .int .i64 k, .slice (some ⟨w3.heap.size, 0, none⟩) 1 1] w6 (RetIns 25 (flatEntry (l.take k ++ ⟨t, u, v, x⟩ :: l.drop k)) (n + 1) w.heap.size w6)) := insertE w.heap.size B6 n d6 k l t u v x w3.heap.size w6 HN.out (by omega) (row_mono hm6 (Nat.le_succ_of_le HS3.out)) HBX.out.size hk BL6 (fun g e => by subst e; have := (row_blk hm6).1; omega); clear hr6 hb6 hm6 HPA HPB a0 a1 a2 a3 e0 e1 e2 e3))

  all_goals
    go_wp2_with fail
    cases hlv : logB (insE l ⟨t, u, v, x⟩) with
    | true =>
      have HLV := Lib.hid hlv; clear hlv
      refine (implLVb (l.take k ++ ⟨t, u, v, x⟩ :: l.drop k) true B8 (n + 1) d8 w8 (by rw [← HIN.out]; exact HLV.out) (by rw [← HIN.out, insE_length, HN.out]) (by omega) (rd_of_row HR8.out) (row_cap HR8.out)).mono ?_
      rintro e w9 ⟨rfl, hb9⟩
      have HR9 := Lib.hid (row_below HR8.out hb9)
      have HB9 := Lib.hid (below_into HB8.out hb9 HB8.out.size)
      clear hb9
      go_wp2_with fail
      exact bodyPost_ret (v := .tuple #[.slice B8 (n + 1) d8, .bool true]) (by simp [results, Tryd.results10, go_sem]) rfl (retLP (put_ins HV.out (fun h => by have := (any_eqE l _).2 h; rw [HC.out] at this; cases this) HLV.out) (by rw [insE_length, HN.out]) (by rw [HIN.out]; exact HR9.out) HB9.out)
    | false =>
      have HLV := Lib.hid hlv; clear hlv
      refine (implLVb (l.take k ++ ⟨t, u, v, x⟩ :: l.drop k) false B8 (n + 1) d8 w8 (by rw [← HIN.out]; exact HLV.out) (by rw [← HIN.out, insE_length, HN.out]) (by omega) (rd_of_row HR8.out) (row_cap HR8.out)).mono ?_
      rintro e w9 ⟨rfl, hb9⟩
      have HB9 := Lib.hid (below_into HB8.out hb9 HB8.out.size)
      clear hb9
      go_wp2_with fail
      refine (cloneE A n c l w9 HN.out (by omega) HF.out hcap (HA.out.below HB9.out)).mono ?_
      rintro e w10 ⟨B10, d10, rfl, hr10, hb10⟩
      have HR10 := Lib.hid (row_mono hr10 HB9.out.size)
      have HB10 := Lib.hid (below_into HB9.out hb10 HB9.out.size)
      clear hr10 hb10
      go_wp2_with fail
      exact bodyPost_ret (v := .tuple #[.slice B10 n d10, .bool false]) (by simp [results, Tryd.results10, go_sem]) rfl (retLP (put_bad HV.out (fun h => by have := (any_eqE l _).2 h; rw [HC.out] at this; cases this) HLV.out) HN.out HR10.out HB10.out)
end Go.Proofs.YtdlphgknplomkaaDoor
