/- Contracts of LogValid, of the reference and of the program, and of what they call. No statement is proved here. -/
import Derived.Test.YtdlphgknplomkaaDoorEnL
import Derived.Test.YtdlphgknplomkaaDoorAll
import Derived.Test.YtdlphgknplomkaaDoorAft
namespace Go.Proofs.YtdlphgknplomkaaDoor
open Go.RowKit

theorem cell_keep {w w' : World} {a : Addr} {v : Value} (h : w.cell? a = some v) (hb : Below w.heap.size w w') : w'.cell? a = some v :=
  (hb.cell (World.block_lt_of_cell? w _ h)).trans h

abbrev eAt (l : List Entry) (k : Nat) : Entry := l.getD k Entry.zero
def okE (e : Entry) : Bool := inB e.fTime 0 999 && inB e.fWho 0 9 && inB e.fNumber 1 99 && inB e.fValue 0 999
/-- the same number of the same station -/
def sameB (e : Entry) (who num : Int) : Bool := e.fWho == who && e.fNumber == num
def dupB (l : List Entry) (k : Nat) : Bool := (List.range k).any fun j => sameB (eAt l j) (eAt l k).fWho (eAt l k).fNumber
def logOk (l : List Entry) (k : Nat) : Bool := okE (eAt l k) && (k == 0 || lessB (eAt l (k - 1)) (eAt l k)) && !dupB l k
def logB (l : List Entry) : Bool := (List.range l.length).all (logOk l) && decide (l.length ≤ 16)
/-- the index of the first entry with a number of a station, or -1 -/
def findI (l : List Entry) (who num : Int) : Int := match (List.range l.length).find? fun j => sameB (eAt l j) who num with | some j => j | none => -1

theorem find_range {p : Nat → Bool} {n k : Nat} (hk : k < n) (hp : p k = true) (hn : ∀ j, j < k → p j = false) : (List.range n).find? p = some k := by
  rw [List.find?_range_eq_some]
  exact ⟨hp, by simpa using hk, fun j hj => by simp [hn j hj]⟩
theorem find_range_none {p : Nat → Bool} {n : Nat} (hn : ∀ j, j < n → p j = false) : (List.range n).find? p = none := by
  rw [List.find?_eq_none]; intro j hj; simp [hn j (by simpa using hj)]
theorem findI_hit {l : List Entry} {who num : Int} {k : Nat} (hk : k < l.length) (hp : sameB (eAt l k) who num = true) (hn : ∀ j, j < k → sameB (eAt l j) who num = false) : findI l who num = k := by
  rw [findI, find_range hk hp hn]
theorem findI_none {l : List Entry} {who num : Int} (hn : ∀ j, j < l.length → sameB (eAt l j) who num = false) : findI l who num = -1 := by
  rw [findI, find_range_none hn]
theorem findI_dup {l : List Entry} {k : Nat} (hk : k < l.length) : decide (findI l (eAt l k).fWho (eAt l k).fNumber < k) = dupB l k := by
  have hself : sameB (eAt l k) (eAt l k).fWho (eAt l k).fNumber = true := by simp [sameB]
  cases hd : dupB l k with
  | true =>
    rw [dupB, List.any_eq_true] at hd
    obtain ⟨j, hj, hs⟩ := hd
    rw [List.mem_range] at hj
    unfold findI
    cases hf : (List.range l.length).find? fun j => sameB (eAt l j) (eAt l k).fWho (eAt l k).fNumber with
    | none =>
      rw [List.find?_eq_none] at hf
      exact absurd hs (hf j (by simp; omega))
    | some i =>
      rw [List.find?_range_eq_some] at hf
      have : ¬ j < i := fun h => by have := hf.2.2 j h; rw [hs] at this; cases this
      exact decide_eq_true (by show (i : Int) < k; omega)
  | false =>
    rw [dupB, List.any_eq_false] at hd
    rw [findI_hit hk hself (fun j hj => by simpa using hd j (by simpa using hj))]
    exact decide_eq_false (by omega)
theorem all_range_succ {p : Nat → Bool} {k : Nat} (h : Hid ((List.range k).all p = true)) (hk : p k = true) : Hid ((List.range (k + 1)).all p = true) := by
  rw [Hid, List.range_succ, List.all_append, h.out]; simp [hk]
theorem all_range_no {p : Nat → Bool} {n k : Nat} (hn : k < n) (hk : p k = false) : (List.range n).all p = false := by
  rw [List.all_eq_false]; exact ⟨k, by simpa using hn, by simp [hk]⟩
theorem logB_no {l : List Entry} {k : Nat} (hk : k < l.length) (h : logOk l k = false) : logB l = false := by
  rw [logB, all_range_no hk h]; rfl

set_option maxHeartbeats 1000000 in
theorem specEn (t u v x : Int) (w : World) : Calls Tryd.prog 52 #[.agg #[.int .i64 t, .int .i64 u, .int .i64 v, .int .i64 x]] w fun e w' => e = .returned (.bool (okE ⟨t, u, v, x⟩)) ∧ Below w.heap.size w w' := by
  unfold okE
  cases h0 : inB t 0 999 with
  | false =>
    go_enter Tryd.func52, Tryd.ntmps52
    go_wp2_with (go_at_call 67; refine (l1In_any _ _ _ _).mono ?_; rintro e w' ⟨rfl, rfl⟩)
    go_ret
    exact ⟨rfl, allocB (Below.refl _ _) _⟩
  | true =>
    cases h1 : inB u 0 9 with
    | false =>
      go_enter Tryd.func52, Tryd.ntmps52
      go_wp2_with (go_at_call 67; refine (l1In_any _ _ _ _).mono ?_; rintro e w' ⟨rfl, rfl⟩)
      go_ret
      exact ⟨rfl, allocB (Below.refl _ _) _⟩
    | true =>
      cases h2 : inB v 1 99 with
      | false =>
        go_enter Tryd.func52, Tryd.ntmps52
        go_wp2_with (go_at_call 67; refine (l1In_any _ _ _ _).mono ?_; rintro e w' ⟨rfl, rfl⟩)
        go_ret
        exact ⟨rfl, allocB (Below.refl _ _) _⟩
      | true =>
        go_enter Tryd.func52, Tryd.ntmps52
        go_wp2_with (go_at_call 67; refine (l1In_any _ _ _ _).mono ?_; rintro e w' ⟨rfl, rfl⟩)
        go_ret
        exact ⟨ret_bool (by simp), allocB (Below.refl _ _) _⟩

set_option maxHeartbeats 1000000 in
theorem specFind (A : Option Addr) (n c : Nat) (l : List Entry) (who num : Int) (w : World) (hn : l.length = n) (hm : n ≤ 1048576) (hA : Rd w A (flatEntry l)) :
    Calls Tryd.prog 43 #[.slice A n c, .int .i64 who, .int .i64 num] w fun e w' => e = .returned (.int .i64 (findI l who num)) ∧ w = w' := by
  have HA := Lib.hid hA; clear hA
  have HN := Lib.hid hn; clear hn
  go_enter Tryd.func43, Tryd.ntmps43
  go_wp2_with fail
  go_loop [7] (fun i => ∃ k : Nat, k ≤ n ∧ i = .int .i64 k ∧ Hid (∀ j, j < k → sameB (eAt l j) who num = false)) (fun i => n - (intOf i).toNat)
  case atStart => exact ⟨0, by omega, rfl, fun j hj => absurd hj (by omega)⟩
  case round =>
    obtain ⟨k, hk, rfl, hp⟩ := hrel
    by_cases hlt : k < n
    · obtain ⟨b, o, rfl, _, hc0, hc1, hc2, hc3⟩ := HA.out.atEntry (k := k) (by have := HN.out; omega)
      have HS : Hid (sameB (eAt l k) who num = ((l.getD k Entry.zero).fWho == who && (l.getD k Entry.zero).fNumber == num)) := rfl
      clear hc0 hc3
      generalize l.getD k Entry.zero = r at *
      cases h1 : (r.fWho == who) with
      | false =>
        go_wp2_with fail
        go_round
        case rel =>
          refine ⟨k + 1, by omega, by go_num, fun j hj => ?_⟩
          rcases Nat.lt_or_ge j k with h | h
          · exact hp.out j h
          · have : j = k := by omega
            subst this; rw [HS.out, h1]; rfl
        case measure => simp [intOf]; omega
      | true =>
        cases h2 : (r.fNumber == num) with
        | false =>
          go_wp2_with fail
          go_round
          case rel =>
            refine ⟨k + 1, by omega, by go_num, fun j hj => ?_⟩
            rcases Nat.lt_or_ge j k with h | h
            · exact hp.out j h
            · have : j = k := by omega
              subst this; rw [HS.out, h1, h2]; rfl
          case measure => simp [intOf]; omega
        | true =>
          go_wp2_with fail
          go_ret
          exact ⟨ret_int (findI_hit (by have := HN.out; omega) (by rw [HS.out, h1, h2]; rfl) hp.out).symm, rfl⟩
    · go_wp2_with fail
      go_ret
      exact ⟨ret_int (findI_none fun j hj => hp.out j (by have := HN.out; omega)).symm, rfl⟩

theorem elS (a b c d a' b' c' d' : Int) (w : World) : Calls Tryd.prog 27 #[.agg #[.int .i64 a, .int .i64 b, .int .i64 c, .int .i64 d], .agg #[.int .i64 a', .int .i64 b', .int .i64 c', .int .i64 d']] w fun e w' => e = .returned (.bool (lessB ⟨a, b, c, d⟩ ⟨a', b', c', d'⟩)) ∧ Below w.heap.size w w' := specEL ⟨a, b, c, d⟩ ⟨a', b', c', d'⟩ w

set_option maxHeartbeats 4000000 in
theorem specLV (A : Option Addr) (n c : Nat) (l : List Entry) (w : World) (hn : l.length = n) (hm : n ≤ 1048576) (hA : Rd w A (flatEntry l)) :
    Calls Tryd.prog 29 #[.slice A n c] w fun e w' => e = .returned (.bool (logB l)) ∧ Below w.heap.size w w' := by
  have HA := Lib.hid hA; clear hA
  have HN := Lib.hid hn; clear hn
  go_enter Tryd.func29, Tryd.ntmps29
  go_wp2_with fail
  go_loopw [3] (fun i wr => ∃ k : Nat, k ≤ n ∧ i = .int .i64 k ∧ Hid ((List.range k).all (logOk l) = true) ∧ Below w.heap.size w wr) (fun i _ => n - (intOf i).toNat)
  case atStart => exact ⟨0, by omega, rfl, by simp [Hid], Below.refl _ _⟩
  case round =>
    obtain ⟨k, hk, rfl, hp, hb⟩ := hrel
    by_cases hlt : k < n
    · have hA' := HA.out.below hb
      have HA' := Lib.hid hA'
      obtain ⟨b, o, rfl, _, hc0, hc1, hc2, hc3⟩ := hA'.atEntry (k := k) (by have := HN.out; omega)
      have hi0 : (0 : Int) ≤ (k : Int) := Int.natCast_nonneg _
      have hi1 : (k : Int) < (n : Int) := by omega
      have HD := Lib.hid (findI_dup (l := l) (k := k) (by have := HN.out; omega))
      by_cases hk0 : k ≤ 0
      · have HR : Hid (logOk l k = (okE (l.getD k Entry.zero) && !dupB l k)) := by
          have e : k = 0 := by omega
          subst e; simp [Hid, logOk]
        have hg : decide ((0 : Int) < (k : Int)) = false := by simp; omega
        have hg' : decide (0 < k) = false := by simp; omega
        clear hA'
        have HX : Hid (dupB l k = decide (findI l (l.getD k Entry.zero).fWho (l.getD k Entry.zero).fNumber < k)) := HD.out.symm
        generalize l.getD k Entry.zero = r at *
        obtain ⟨t, u, v, x⟩ := r
        cases hok : okE ⟨t, u, v, x⟩ with
        | false =>
          go_wp2_with fail
          have f0 : ∀ i : After wr, i.wd.cell? ⟨b, o + k * 4, none⟩ = some (.int .i64 t) := fun i => i.cell hc0
          have f1 : ∀ i : After wr, i.wd.cell? ⟨b, o + k * 4 + 1, none⟩ = some (.int .i64 u) := fun i => i.cell hc1
          have f2 : ∀ i : After wr, i.wd.cell? ⟨b, o + k * 4 + 2, none⟩ = some (.int .i64 v) := fun i => i.cell hc2
          have f3 : ∀ i : After wr, i.wd.cell? ⟨b, o + k * 4 + 3, none⟩ = some (.int .i64 x) := fun i => i.cell hc3
          refine wp_region_after (by kernel_rfl) (by kernel_rfl) ?_
          repeat (go_big_quiet_step ((first | (go_at_call 52; exact after_call (specEn _ _ _ _ _)) | (go_at_call 27; exact after_call (elS _ _ _ _ _ _ _ _ _)) | (go_at_call 43; exact after_same (specFind _ _ _ l _ _ _ HN.out hm (HA'.out.below (After.below _)))))))
          refine wpQuiet_nil ?_
          rintro _ ⟨i2, rfl⟩
          have hb2 := hb.trans (i2.below.mono hb.size)
          clear f0 f1 f2 f3 
          generalize i2.wd = w2 at *
          go_wp2_with fail
          go_ret
          exact ⟨ret_bool (logB_no (k := k) (by have := HN.out; omega) (by rw [HR.out, hok]; rfl)).symm, hb2⟩
        | true =>
          cases hfd : decide (findI l u v < (k : Int)) with
          | true =>
            go_wp2_with fail
            have f0 : ∀ i : After wr, i.wd.cell? ⟨b, o + k * 4, none⟩ = some (.int .i64 t) := fun i => i.cell hc0
            have f1 : ∀ i : After wr, i.wd.cell? ⟨b, o + k * 4 + 1, none⟩ = some (.int .i64 u) := fun i => i.cell hc1
            have f2 : ∀ i : After wr, i.wd.cell? ⟨b, o + k * 4 + 2, none⟩ = some (.int .i64 v) := fun i => i.cell hc2
            have f3 : ∀ i : After wr, i.wd.cell? ⟨b, o + k * 4 + 3, none⟩ = some (.int .i64 x) := fun i => i.cell hc3
            refine wp_region_after (by kernel_rfl) (by kernel_rfl) ?_
            repeat (go_big_quiet_step ((first | (go_at_call 52; exact after_call (specEn _ _ _ _ _)) | (go_at_call 27; exact after_call (elS _ _ _ _ _ _ _ _ _)) | (go_at_call 43; exact after_same (specFind _ _ _ l _ _ _ HN.out hm (HA'.out.below (After.below _)))))))
            refine wpQuiet_nil ?_
            rintro _ ⟨i2, rfl⟩
            have hb2 := hb.trans (i2.below.mono hb.size)
            clear f0 f1 f2 f3 
            generalize i2.wd = w2 at *
            go_wp2_with fail
            go_ret
            exact ⟨ret_bool (logB_no (k := k) (by have := HN.out; omega) (by rw [HR.out, hok, HX.out, hfd]; rfl)).symm, hb2⟩
          | false =>
            go_wp2_with fail
            have f0 : ∀ i : After wr, i.wd.cell? ⟨b, o + k * 4, none⟩ = some (.int .i64 t) := fun i => i.cell hc0
            have f1 : ∀ i : After wr, i.wd.cell? ⟨b, o + k * 4 + 1, none⟩ = some (.int .i64 u) := fun i => i.cell hc1
            have f2 : ∀ i : After wr, i.wd.cell? ⟨b, o + k * 4 + 2, none⟩ = some (.int .i64 v) := fun i => i.cell hc2
            have f3 : ∀ i : After wr, i.wd.cell? ⟨b, o + k * 4 + 3, none⟩ = some (.int .i64 x) := fun i => i.cell hc3
            refine wp_region_after (by kernel_rfl) (by kernel_rfl) ?_
            repeat (go_big_quiet_step ((first | (go_at_call 52; exact after_call (specEn _ _ _ _ _)) | (go_at_call 27; exact after_call (elS _ _ _ _ _ _ _ _ _)) | (go_at_call 43; exact after_same (specFind _ _ _ l _ _ _ HN.out hm (HA'.out.below (After.below _)))))))
            refine wpQuiet_nil ?_
            rintro _ ⟨i2, rfl⟩
            have hb2 := hb.trans (i2.below.mono hb.size)
            clear f0 f1 f2 f3 
            generalize i2.wd = w2 at *
            go_wp2_with fail
            go_roundw
            case rel => exact ⟨k + 1, by omega, by go_num, all_range_succ hp (by rw [HR.out, hok, HX.out, hfd]; rfl), hb2⟩
            case measure => simp [intOf]; omega
      · obtain ⟨b', o', e', _, hd0, hd1, hd2, hd3⟩ := hA'.atEntry (k := k - 1) (by have := HN.out; omega)
        cases e'
        have HR : Hid (logOk l k = (okE (l.getD k Entry.zero) && lessB (l.getD (k - 1) Entry.zero) (l.getD k Entry.zero) && !dupB l k)) := by
          have hkn : (k == 0) = false := by simp; omega
          rw [Hid, logOk, hkn, Bool.false_or]
        have hg : decide ((0 : Int) < (k : Int)) = true := by simp; omega
        have hg' : decide (0 < k) = true := by simp; omega
        clear hA'
        have HX : Hid (dupB l k = decide (findI l (l.getD k Entry.zero).fWho (l.getD k Entry.zero).fNumber < k)) := HD.out.symm
        generalize l.getD k Entry.zero = r at *
        generalize l.getD (k - 1) Entry.zero = r' at *
        obtain ⟨t, u, v, x⟩ := r
        obtain ⟨t', u', v', x'⟩ := r'
        cases hok : okE ⟨t, u, v, x⟩ with
        | false =>
          go_wp2_with fail
          have f0 : ∀ i : After wr, i.wd.cell? ⟨b, o + k * 4, none⟩ = some (.int .i64 t) := fun i => i.cell hc0
          have f1 : ∀ i : After wr, i.wd.cell? ⟨b, o + k * 4 + 1, none⟩ = some (.int .i64 u) := fun i => i.cell hc1
          have f2 : ∀ i : After wr, i.wd.cell? ⟨b, o + k * 4 + 2, none⟩ = some (.int .i64 v) := fun i => i.cell hc2
          have f3 : ∀ i : After wr, i.wd.cell? ⟨b, o + k * 4 + 3, none⟩ = some (.int .i64 x) := fun i => i.cell hc3
          have g0 : ∀ i : After wr, i.wd.cell? ⟨b, o + (k - 1) * 4, none⟩ = some (.int .i64 t') := fun i => i.cell hd0
          have g1 : ∀ i : After wr, i.wd.cell? ⟨b, o + (k - 1) * 4 + 1, none⟩ = some (.int .i64 u') := fun i => i.cell hd1
          have g2 : ∀ i : After wr, i.wd.cell? ⟨b, o + (k - 1) * 4 + 2, none⟩ = some (.int .i64 v') := fun i => i.cell hd2
          have g3 : ∀ i : After wr, i.wd.cell? ⟨b, o + (k - 1) * 4 + 3, none⟩ = some (.int .i64 x') := fun i => i.cell hd3
          refine wp_region_after (by kernel_rfl) (by kernel_rfl) ?_
          repeat (go_big_quiet_step ((first | (go_at_call 52; exact after_call (specEn _ _ _ _ _)) | (go_at_call 27; exact after_call (elS _ _ _ _ _ _ _ _ _)) | (go_at_call 43; exact after_same (specFind _ _ _ l _ _ _ HN.out hm (HA'.out.below (After.below _)))))))
          refine wpQuiet_nil ?_
          rintro _ ⟨i2, rfl⟩
          have hb2 := hb.trans (i2.below.mono hb.size)
          clear f0 f1 f2 f3 g0 g1 g2 g3
          generalize i2.wd = w2 at *
          go_wp2_with fail
          go_ret
          exact ⟨ret_bool (logB_no (k := k) (by have := HN.out; omega) (by rw [HR.out, hok]; rfl)).symm, hb2⟩
        | true =>
          cases hle : lessB ⟨t', u', v', x'⟩ ⟨t, u, v, x⟩ with
          | false =>
            go_wp2_with fail
            have f0 : ∀ i : After wr, i.wd.cell? ⟨b, o + k * 4, none⟩ = some (.int .i64 t) := fun i => i.cell hc0
            have f1 : ∀ i : After wr, i.wd.cell? ⟨b, o + k * 4 + 1, none⟩ = some (.int .i64 u) := fun i => i.cell hc1
            have f2 : ∀ i : After wr, i.wd.cell? ⟨b, o + k * 4 + 2, none⟩ = some (.int .i64 v) := fun i => i.cell hc2
            have f3 : ∀ i : After wr, i.wd.cell? ⟨b, o + k * 4 + 3, none⟩ = some (.int .i64 x) := fun i => i.cell hc3
            have g0 : ∀ i : After wr, i.wd.cell? ⟨b, o + (k - 1) * 4, none⟩ = some (.int .i64 t') := fun i => i.cell hd0
            have g1 : ∀ i : After wr, i.wd.cell? ⟨b, o + (k - 1) * 4 + 1, none⟩ = some (.int .i64 u') := fun i => i.cell hd1
            have g2 : ∀ i : After wr, i.wd.cell? ⟨b, o + (k - 1) * 4 + 2, none⟩ = some (.int .i64 v') := fun i => i.cell hd2
            have g3 : ∀ i : After wr, i.wd.cell? ⟨b, o + (k - 1) * 4 + 3, none⟩ = some (.int .i64 x') := fun i => i.cell hd3
            refine wp_region_after (by kernel_rfl) (by kernel_rfl) ?_
            repeat (go_big_quiet_step ((first | (go_at_call 52; exact after_call (specEn _ _ _ _ _)) | (go_at_call 27; exact after_call (elS _ _ _ _ _ _ _ _ _)) | (go_at_call 43; exact after_same (specFind _ _ _ l _ _ _ HN.out hm (HA'.out.below (After.below _)))))))
            refine wpQuiet_nil ?_
            rintro _ ⟨i2, rfl⟩
            have hb2 := hb.trans (i2.below.mono hb.size)
            clear f0 f1 f2 f3 g0 g1 g2 g3
            generalize i2.wd = w2 at *
            go_wp2_with fail
            go_ret
            exact ⟨ret_bool (logB_no (k := k) (by have := HN.out; omega) (by rw [HR.out, hok, hle]; rfl)).symm, hb2⟩
          | true =>
            cases hfd : decide (findI l u v < (k : Int)) with
            | true =>
              go_wp2_with fail
              have f0 : ∀ i : After wr, i.wd.cell? ⟨b, o + k * 4, none⟩ = some (.int .i64 t) := fun i => i.cell hc0
              have f1 : ∀ i : After wr, i.wd.cell? ⟨b, o + k * 4 + 1, none⟩ = some (.int .i64 u) := fun i => i.cell hc1
              have f2 : ∀ i : After wr, i.wd.cell? ⟨b, o + k * 4 + 2, none⟩ = some (.int .i64 v) := fun i => i.cell hc2
              have f3 : ∀ i : After wr, i.wd.cell? ⟨b, o + k * 4 + 3, none⟩ = some (.int .i64 x) := fun i => i.cell hc3
              have g0 : ∀ i : After wr, i.wd.cell? ⟨b, o + (k - 1) * 4, none⟩ = some (.int .i64 t') := fun i => i.cell hd0
              have g1 : ∀ i : After wr, i.wd.cell? ⟨b, o + (k - 1) * 4 + 1, none⟩ = some (.int .i64 u') := fun i => i.cell hd1
              have g2 : ∀ i : After wr, i.wd.cell? ⟨b, o + (k - 1) * 4 + 2, none⟩ = some (.int .i64 v') := fun i => i.cell hd2
              have g3 : ∀ i : After wr, i.wd.cell? ⟨b, o + (k - 1) * 4 + 3, none⟩ = some (.int .i64 x') := fun i => i.cell hd3
              refine wp_region_after (by kernel_rfl) (by kernel_rfl) ?_
              repeat (go_big_quiet_step ((first | (go_at_call 52; exact after_call (specEn _ _ _ _ _)) | (go_at_call 27; exact after_call (elS _ _ _ _ _ _ _ _ _)) | (go_at_call 43; exact after_same (specFind _ _ _ l _ _ _ HN.out hm (HA'.out.below (After.below _)))))))
              refine wpQuiet_nil ?_
              rintro _ ⟨i2, rfl⟩
              have hb2 := hb.trans (i2.below.mono hb.size)
              clear f0 f1 f2 f3 g0 g1 g2 g3
              generalize i2.wd = w2 at *
              go_wp2_with fail
              go_ret
              exact ⟨ret_bool (logB_no (k := k) (by have := HN.out; omega) (by rw [HR.out, hok, hle, HX.out, hfd]; rfl)).symm, hb2⟩
            | false =>
              go_wp2_with fail
              have f0 : ∀ i : After wr, i.wd.cell? ⟨b, o + k * 4, none⟩ = some (.int .i64 t) := fun i => i.cell hc0
              have f1 : ∀ i : After wr, i.wd.cell? ⟨b, o + k * 4 + 1, none⟩ = some (.int .i64 u) := fun i => i.cell hc1
              have f2 : ∀ i : After wr, i.wd.cell? ⟨b, o + k * 4 + 2, none⟩ = some (.int .i64 v) := fun i => i.cell hc2
              have f3 : ∀ i : After wr, i.wd.cell? ⟨b, o + k * 4 + 3, none⟩ = some (.int .i64 x) := fun i => i.cell hc3
              have g0 : ∀ i : After wr, i.wd.cell? ⟨b, o + (k - 1) * 4, none⟩ = some (.int .i64 t') := fun i => i.cell hd0
              have g1 : ∀ i : After wr, i.wd.cell? ⟨b, o + (k - 1) * 4 + 1, none⟩ = some (.int .i64 u') := fun i => i.cell hd1
              have g2 : ∀ i : After wr, i.wd.cell? ⟨b, o + (k - 1) * 4 + 2, none⟩ = some (.int .i64 v') := fun i => i.cell hd2
              have g3 : ∀ i : After wr, i.wd.cell? ⟨b, o + (k - 1) * 4 + 3, none⟩ = some (.int .i64 x') := fun i => i.cell hd3
              refine wp_region_after (by kernel_rfl) (by kernel_rfl) ?_
              repeat (go_big_quiet_step ((first | (go_at_call 52; exact after_call (specEn _ _ _ _ _)) | (go_at_call 27; exact after_call (elS _ _ _ _ _ _ _ _ _)) | (go_at_call 43; exact after_same (specFind _ _ _ l _ _ _ HN.out hm (HA'.out.below (After.below _)))))))
              refine wpQuiet_nil ?_
              rintro _ ⟨i2, rfl⟩
              have hb2 := hb.trans (i2.below.mono hb.size)
              clear f0 f1 f2 f3 g0 g1 g2 g3
              generalize i2.wd = w2 at *
              go_wp2_with fail
              go_roundw
              case rel => exact ⟨k + 1, by omega, by go_num, all_range_succ hp (by rw [HR.out, hok, hle, HX.out, hfd]; rfl), hb2⟩
              case measure => simp [intOf]; omega
    · go_wp2_with fail
      go_ret
      refine ⟨ret_bool ?_, hb⟩
      have hq := HN.out
      have hkn : k = n := by omega
      subst hkn
      rw [logB, hq, hp.out, Bool.true_and]
      exact decide_eq_decide.2 (by omega)

set_option maxHeartbeats 400000 in
theorem namesakeE (t u v x t' u' v' x' : Int) (w : World) : Calls Tryd.prog 48 #[.agg #[.int .i64 t, .int .i64 u, .int .i64 v, .int .i64 x], .agg #[.int .i64 t', .int .i64 u', .int .i64 v', .int .i64 x']] w fun e w' => e = .returned (.bool (sameB ⟨t', u', v', x'⟩ u v)) ∧ Below w.heap.size w w' := by
  have hs : sameB ⟨t', u', v', x'⟩ u v = (u == u' && v == v') := by
    rw [sameB, show (u' == u) = (u == u') from BEq.comm, show (v' == v) = (v == v') from BEq.comm]
  rw [hs]; clear hs
  cases h1 : (u == u') with
  | false =>
    go_enter Tryd.func48, Tryd.ntmps48
    go_wp2_with fail
    go_ret
    exact ⟨rfl, allocB (allocB (Below.refl _ _) _) _⟩
  | true =>
    go_enter Tryd.func48, Tryd.ntmps48
    go_wp2_with fail
    go_ret
    exact ⟨ret_bool (by simp), allocB (allocB (Below.refl _ _) _) _⟩

set_option maxHeartbeats 1000000 in
theorem indexF (A : Option Addr) (n c : Nat) (l : List Entry) (t u v x : Int) (w : World) (hn : l.length = n) (hm : n ≤ 1048576) (hA : Rd w A (flatEntry l)) :
    Calls Tryd.prog 64 #[.slice A n c, .func (.func 48) #[.agg #[.int .i64 t, .int .i64 u, .int .i64 v, .int .i64 x]] #[]] w fun e w' => e = .returned (.int .i64 (findI l u v)) ∧ Below w.heap.size w w' := by
  have HA := Lib.hid hA; clear hA
  have HN := Lib.hid hn; clear hn
  go_enter Tryd.func64, Tryd.ntmps64
  go_wp2_with fail
  go_loopw [8] (fun i wr => ∃ k : Nat, k ≤ n ∧ i = .int .i64 k ∧ Hid (∀ j, j < k → sameB (eAt l j) u v = false) ∧ Below w.heap.size w wr) (fun i _ => n - (intOf i).toNat)
  case atStart => exact ⟨0, by omega, rfl, fun j hj => absurd hj (by omega), Below.refl _ _⟩
  case round =>
    obtain ⟨k, hk, rfl, hp, hb⟩ := hrel
    by_cases hlt : k < n
    · obtain ⟨b, o, rfl, _, hc0, hc1, hc2, hc3⟩ := (HA.out.below hb).atEntry (k := k) (by have := HN.out; omega)
      have HS : Hid (sameB (eAt l k) u v = sameB (l.getD k Entry.zero) u v) := rfl
      generalize l.getD k Entry.zero = r at *
      obtain ⟨t', u', v', x'⟩ := r
      cases h1 : sameB ⟨t', u', v', x'⟩ u v with
      | false =>
        go_wp2_with fail
        refine (namesakeE _ _ _ _ _ _ _ _ _).mono ?_
        rintro e w2 ⟨rfl, hb2⟩
        have hb3 := hb.trans (hb2.mono hb.size)
        clear hb hb2 hc0 hc1 hc2 hc3
        go_wp2_with fail
        go_roundw
        case rel =>
          refine ⟨k + 1, by omega, by go_num, fun j hj => ?_, hb3⟩
          rcases Nat.lt_or_ge j k with h | h
          · exact hp.out j h
          · have : j = k := by omega
            subst this; rw [HS.out, h1]
        case measure => simp [intOf]; omega
      | true =>
        go_wp2_with fail
        refine (namesakeE _ _ _ _ _ _ _ _ _).mono ?_
        rintro e w2 ⟨rfl, hb2⟩
        have hb3 := hb.trans (hb2.mono hb.size)
        go_wp2_with fail
        go_ret
        exact ⟨ret_int (findI_hit (by have := HN.out; omega) (by rw [HS.out, h1]) hp.out).symm, hb3⟩
    · go_wp2_with fail
      go_ret
      exact ⟨ret_int (findI_none fun j hj => hp.out j (by have := HN.out; omega)).symm, hb⟩

theorem containsF (A : Option Addr) (n c : Nat) (l : List Entry) (t u v x : Int) (w : World) (hn : l.length = n) (hm : n ≤ 1048576) (hA : Rd w A (flatEntry l)) :
    Calls Tryd.prog 47 #[.slice A n c, .func (.func 48) #[.agg #[.int .i64 t, .int .i64 u, .int .i64 v, .int .i64 x]] #[]] w fun e w' => e = .returned (.bool (decide (0 ≤ findI l u v))) ∧ Below w.heap.size w w' := by
  have HA := Lib.hid hA; clear hA
  have HN := Lib.hid hn; clear hn
  go_enter Tryd.func47, Tryd.ntmps47
  go_wp2_with fail
  refine (indexF _ _ _ l _ _ _ _ _ HN.out hm HA.out).mono ?_
  rintro e w2 ⟨rfl, hb2⟩
  go_wp2_with fail
  go_ret
  exact ⟨rfl, hb2⟩

theorem elI (a b c d a' b' c' d' : Int) (w : World) : Calls Tryd.prog 26 #[.agg #[.int .i64 a, .int .i64 b, .int .i64 c, .int .i64 d], .agg #[.int .i64 a', .int .i64 b', .int .i64 c', .int .i64 d']] w fun e w' => e = .returned (.bool (lessB ⟨a, b, c, d⟩ ⟨a', b', c', d'⟩)) ∧ Below w.heap.size w w' := implEL ⟨a, b, c, d⟩ ⟨a', b', c', d'⟩ w
theorem Rd.takeEntry {w : World} {A : Option Addr} {l : List Entry} (h : Rd w A (flatEntry l)) (k : Nat) : Rd w A (flatEntry (l.take k)) := by
  intro h0
  have hpre : flatEntry l = flatEntry (l.take k) ++ flatEntry (l.drop k) := by
    unfold flatEntry
    rw [← List.flatMap_append, List.take_append_drop]
  obtain ⟨b, o, e, hlt, hc⟩ := h (by rw [hpre, List.length_append]; omega)
  refine ⟨b, o, e, hlt, fun i u hu => hc i u ?_⟩
  rw [hpre, List.getElem?_append_left]
  · exact hu
  · rcases Nat.lt_or_ge i (flatEntry (l.take k)).length with h | h
    · exact h
    · rw [List.getElem?_eq_none h] at hu; cases hu
theorem find_take {l : List Entry} {k : Nat} (hk : k < l.length) : decide (0 ≤ findI (l.take k) (eAt l k).fWho (eAt l k).fNumber) = dupB l k := by
  have hlen : (l.take k).length = k := by rw [List.length_take]; omega
  have hat : ∀ j, j < k → eAt (l.take k) j = eAt l j := fun j hj => by simp [eAt, hj]
  cases hd : dupB l k with
  | true =>
    rw [dupB, List.any_eq_true] at hd
    obtain ⟨j, hj, hs⟩ := hd
    rw [List.mem_range] at hj
    unfold findI
    cases hf : (List.range (l.take k).length).find? fun j => sameB (eAt (l.take k) j) (eAt l k).fWho (eAt l k).fNumber with
    | none =>
      rw [List.find?_eq_none] at hf
      exact absurd (by rw [hat j hj]; exact hs) (hf j (by rw [hlen]; simpa using hj))
    | some i => exact decide_eq_true (by show (0 : Int) ≤ i; omega)
  | false =>
    rw [dupB, List.any_eq_false] at hd
    rw [findI_none fun j hj => by
      rw [hlen] at hj
      rw [hat j hj]; simpa using hd j (by simpa using hj)]
    rfl

set_option maxHeartbeats 8000000 in
theorem implLV (A : Option Addr) (n c : Nat) (l : List Entry) (w : World) (hn : l.length = n) (hm : n ≤ 1048576) (hA : Rd w A (flatEntry l)) (hcap : n ≤ c) :
    Calls Tryd.prog 15 #[.slice A n c] w fun e w' => e = .returned (.bool (logB l)) ∧ Below w.heap.size w w' := by
  have HA := Lib.hid hA; clear hA
  have HN := Lib.hid hn; clear hn
  by_cases hmax : n ≤ 16
  case neg =>
    go_enter Tryd.func15, Tryd.ntmps15
    go_wp2_with fail
    go_ret
    exact ⟨ret_bool (by rw [logB, HN.out, decide_eq_false hmax, Bool.and_false]), Below.refl _ _⟩
  go_enter Tryd.func15, Tryd.ntmps15
  go_wp2_with fail
  go_loopw [10] (fun i wr => ∃ k : Nat, k ≤ n ∧ i = .int .i64 k ∧ Hid ((List.range k).all (logOk l) = true) ∧ Below w.heap.size w wr) (fun i _ => n - (intOf i).toNat)
  case atStart => exact ⟨0, by omega, rfl, by simp [Hid], Below.refl _ _⟩
  case round =>
    obtain ⟨k, hk, rfl, hp, hb⟩ := hrel
    by_cases hlt : k < n
    · have hA' := HA.out.below hb
      obtain ⟨b, o, rfl, hbl, hc0, hc1, hc2, hc3⟩ := hA'.atEntry (k := k) (by have := HN.out; omega)
      have hi0 : (0 : Int) ≤ (k : Int) := Int.natCast_nonneg _
      have hi1 : (k : Int) ≤ (c : Int) := by omega
      have HX : Hid (dupB l k = decide (0 ≤ findI (l.take k) (l.getD k Entry.zero).fWho (l.getD k Entry.zero).fNumber)) := (find_take (by have := HN.out; omega)).symm
      have HTk : Hid ((l.take k).length = k) := by rw [Hid, List.length_take]; have := HN.out; omega
      by_cases hk0 : k ≤ 0
      · have HR : Hid (logOk l k = (okE (l.getD k Entry.zero) && !dupB l k)) := by
          have e : k = 0 := by omega
          subst e; simp [Hid, logOk]
        have hg : decide ((0 : Int) < (k : Int)) = false := by simp; omega
        have hg' : decide (0 < k) = false := by simp; omega
        clear hk0
        generalize l.getD k Entry.zero = r at *
        obtain ⟨t, u, v, x⟩ := r
        cases h0 : inB t 0 999 with
        | false =>
          have hok : okE ⟨t, u, v, x⟩ = false := by simp [okE, h0]
          have HOK := Lib.hid hok; clear hok
          go_wp2_with (go_at_call 46; refine (pv_any _ _).mono ?_; rintro e w' ⟨rfl, rfl⟩)
          go_ret
          exact ⟨ret_bool (logB_no (k := k) (by have := HN.out; omega) (by rw [HR.out, HOK.out]; rfl)).symm, allocB hb _⟩
        | true =>
          cases h1 : inB u 0 9 with
          | false =>
            have hok : okE ⟨t, u, v, x⟩ = false := by simp [okE, h1]
            have HOK := Lib.hid hok; clear hok
            rcases (inB_not _ _ _).1 h1 with hq | hq
            · clear h1
              go_wp2_with (go_at_call 46; refine (pv_any _ _).mono ?_; rintro e w' ⟨rfl, rfl⟩)
              go_ret
              exact ⟨ret_bool (logB_no (k := k) (by have := HN.out; omega) (by rw [HR.out, HOK.out]; rfl)).symm, allocB hb _⟩
            · clear h1
              go_wp2_with (go_at_call 46; refine (pv_any _ _).mono ?_; rintro e w' ⟨rfl, rfl⟩)
              go_ret
              exact ⟨ret_bool (logB_no (k := k) (by have := HN.out; omega) (by rw [HR.out, HOK.out]; rfl)).symm, allocB hb _⟩
          | true =>
            obtain ⟨lo1, hi1⟩ := (inB_iff _ _ _).1 h1
            cases h2 : inB v 1 99 with
            | false =>
              have hok : okE ⟨t, u, v, x⟩ = false := by simp [okE, h2]
              have HOK := Lib.hid hok; clear hok
              rcases (inB_not _ _ _).1 h2 with hq | hq
              · clear h2
                go_wp2_with (go_at_call 46; refine (pv_any _ _).mono ?_; rintro e w' ⟨rfl, rfl⟩)
                go_ret
                exact ⟨ret_bool (logB_no (k := k) (by have := HN.out; omega) (by rw [HR.out, HOK.out]; rfl)).symm, allocB hb _⟩
              · clear h2
                go_wp2_with (go_at_call 46; refine (pv_any _ _).mono ?_; rintro e w' ⟨rfl, rfl⟩)
                go_ret
                exact ⟨ret_bool (logB_no (k := k) (by have := HN.out; omega) (by rw [HR.out, HOK.out]; rfl)).symm, allocB hb _⟩
            | true =>
              obtain ⟨lo2, hi2⟩ := (inB_iff _ _ _).1 h2
              cases h3 : inB x 0 999 with
              | false =>
                have hok : okE ⟨t, u, v, x⟩ = false := by simp [okE, h3]
                have HOK := Lib.hid hok; clear hok
                go_wp2_with (go_at_call 46; refine (pv_any _ _).mono ?_; rintro e w' ⟨rfl, rfl⟩)
                go_ret
                exact ⟨ret_bool (logB_no (k := k) (by have := HN.out; omega) (by rw [HR.out, HOK.out]; rfl)).symm, allocB hb _⟩
              | true =>
                have hok : okE ⟨t, u, v, x⟩ = true := by simp [okE, h0, h1, h2, h3]
                have HOK := Lib.hid hok; clear hok
                cases hfd : decide (0 ≤ findI (l.take k) u v) with
                | true =>
                  go_wp2_with (go_at_call 46; refine (pv_any _ _).mono ?_; rintro e w' ⟨rfl, rfl⟩)
                  have hba := allocB hb (Obj.cells #[.int .i64 t, .int .i64 u, .int .i64 v, .int .i64 x] 25)
                  have HAk := Lib.hid (((HA.out.below hb).below (allocB (Below.refl wr.heap.size wr) (Obj.cells #[.int .i64 t, .int .i64 u, .int .i64 v, .int .i64 x] 25))).takeEntry k)
                  have ha0 := (one_box wr #[.int .i64 t, .int .i64 u, .int .i64 v, .int .i64 x] 25 0).trans (show (#[.int .i64 t, .int .i64 u, .int .i64 v, .int .i64 x] : Array Value)[0]? = some (.int .i64 t) from rfl)
                  have ha1 := (one_box wr #[.int .i64 t, .int .i64 u, .int .i64 v, .int .i64 x] 25 1).trans (show (#[.int .i64 t, .int .i64 u, .int .i64 v, .int .i64 x] : Array Value)[1]? = some (.int .i64 u) from rfl)
                  have ha2 := (one_box wr #[.int .i64 t, .int .i64 u, .int .i64 v, .int .i64 x] 25 2).trans (show (#[.int .i64 t, .int .i64 u, .int .i64 v, .int .i64 x] : Array Value)[2]? = some (.int .i64 v) from rfl)
                  have ha3 := (one_box wr #[.int .i64 t, .int .i64 u, .int .i64 v, .int .i64 x] 25 3).trans (show (#[.int .i64 t, .int .i64 u, .int .i64 v, .int .i64 x] : Array Value)[3]? = some (.int .i64 x) from rfl)
                  clear hc0 hc1 hc2 hc3
                  generalize wr.alloc (Obj.cells #[.int .i64 t, .int .i64 u, .int .i64 v, .int .i64 x] 25) = wa at *
                  generalize wr.heap.size = Pb at *
                  have f0 : ∀ i : After wa, i.wd.cell? ⟨Pb, 0, none⟩ = some (.int .i64 t) := fun i => i.cell ha0
                  have f1 : ∀ i : After wa, i.wd.cell? ⟨Pb, 1, none⟩ = some (.int .i64 u) := fun i => i.cell ha1
                  have f2 : ∀ i : After wa, i.wd.cell? ⟨Pb, 2, none⟩ = some (.int .i64 v) := fun i => i.cell ha2
                  have f3 : ∀ i : After wa, i.wd.cell? ⟨Pb, 3, none⟩ = some (.int .i64 x) := fun i => i.cell ha3
                  refine wp_region_after (by kernel_rfl) (by kernel_rfl) ?_
                  repeat (go_big_quiet_step ((first | (go_at_call 26; exact after_call (elI _ _ _ _ _ _ _ _ _)) | (go_at_call 47; exact after_call (containsF _ _ _ (l.take k) _ _ _ _ _ HTk.out (by omega) (HAk.out.below (After.below _)))))))
                  refine wpQuiet_nil ?_
                  rintro _ ⟨i2, rfl⟩
                  have hb2 := hba.trans (i2.below.mono hba.size)
                  clear f0 f1 f2 f3 
                  generalize i2.wd = w2 at *
                  go_wp2_with fail
                  go_ret
                  exact ⟨ret_bool (logB_no (k := k) (by have := HN.out; omega) (by rw [HR.out, HOK.out, HX.out, hfd]; rfl)).symm, hb2⟩
                | false =>
                  go_wp2_with (go_at_call 46; refine (pv_any _ _).mono ?_; rintro e w' ⟨rfl, rfl⟩)
                  have hba := allocB hb (Obj.cells #[.int .i64 t, .int .i64 u, .int .i64 v, .int .i64 x] 25)
                  have HAk := Lib.hid (((HA.out.below hb).below (allocB (Below.refl wr.heap.size wr) (Obj.cells #[.int .i64 t, .int .i64 u, .int .i64 v, .int .i64 x] 25))).takeEntry k)
                  have ha0 := (one_box wr #[.int .i64 t, .int .i64 u, .int .i64 v, .int .i64 x] 25 0).trans (show (#[.int .i64 t, .int .i64 u, .int .i64 v, .int .i64 x] : Array Value)[0]? = some (.int .i64 t) from rfl)
                  have ha1 := (one_box wr #[.int .i64 t, .int .i64 u, .int .i64 v, .int .i64 x] 25 1).trans (show (#[.int .i64 t, .int .i64 u, .int .i64 v, .int .i64 x] : Array Value)[1]? = some (.int .i64 u) from rfl)
                  have ha2 := (one_box wr #[.int .i64 t, .int .i64 u, .int .i64 v, .int .i64 x] 25 2).trans (show (#[.int .i64 t, .int .i64 u, .int .i64 v, .int .i64 x] : Array Value)[2]? = some (.int .i64 v) from rfl)
                  have ha3 := (one_box wr #[.int .i64 t, .int .i64 u, .int .i64 v, .int .i64 x] 25 3).trans (show (#[.int .i64 t, .int .i64 u, .int .i64 v, .int .i64 x] : Array Value)[3]? = some (.int .i64 x) from rfl)
                  clear hc0 hc1 hc2 hc3
                  generalize wr.alloc (Obj.cells #[.int .i64 t, .int .i64 u, .int .i64 v, .int .i64 x] 25) = wa at *
                  generalize wr.heap.size = Pb at *
                  have f0 : ∀ i : After wa, i.wd.cell? ⟨Pb, 0, none⟩ = some (.int .i64 t) := fun i => i.cell ha0
                  have f1 : ∀ i : After wa, i.wd.cell? ⟨Pb, 1, none⟩ = some (.int .i64 u) := fun i => i.cell ha1
                  have f2 : ∀ i : After wa, i.wd.cell? ⟨Pb, 2, none⟩ = some (.int .i64 v) := fun i => i.cell ha2
                  have f3 : ∀ i : After wa, i.wd.cell? ⟨Pb, 3, none⟩ = some (.int .i64 x) := fun i => i.cell ha3
                  refine wp_region_after (by kernel_rfl) (by kernel_rfl) ?_
                  repeat (go_big_quiet_step ((first | (go_at_call 26; exact after_call (elI _ _ _ _ _ _ _ _ _)) | (go_at_call 47; exact after_call (containsF _ _ _ (l.take k) _ _ _ _ _ HTk.out (by omega) (HAk.out.below (After.below _)))))))
                  refine wpQuiet_nil ?_
                  rintro _ ⟨i2, rfl⟩
                  have hb2 := hba.trans (i2.below.mono hba.size)
                  clear f0 f1 f2 f3 
                  generalize i2.wd = w2 at *
                  go_wp2_with fail
                  go_roundw
                  case rel => exact ⟨k + 1, by omega, by go_num, all_range_succ hp (by rw [HR.out, HOK.out, HX.out, hfd]; rfl), hb2⟩
                  case measure => simp [intOf]; omega
      · obtain ⟨b', o', e', _, hd0, hd1, hd2, hd3⟩ := hA'.atEntry (k := k - 1) (by have := HN.out; omega)
        cases e'
        have HR : Hid (logOk l k = (okE (l.getD k Entry.zero) && lessB (l.getD (k - 1) Entry.zero) (l.getD k Entry.zero) && !dupB l k)) := by
          have hkn : (k == 0) = false := by simp; omega
          rw [Hid, logOk, hkn, Bool.false_or]
        have hg : decide ((0 : Int) < (k : Int)) = true := by simp; omega
        have hg' : decide (0 < k) = true := by simp; omega
        generalize l.getD k Entry.zero = r at *
        generalize l.getD (k - 1) Entry.zero = r' at *
        obtain ⟨t, u, v, x⟩ := r
        obtain ⟨t', u', v', x'⟩ := r'
        cases h0 : inB t 0 999 with
        | false =>
          have hok : okE ⟨t, u, v, x⟩ = false := by simp [okE, h0]
          have HOK := Lib.hid hok; clear hok
          go_wp2_with (go_at_call 46; refine (pv_any _ _).mono ?_; rintro e w' ⟨rfl, rfl⟩)
          go_ret
          exact ⟨ret_bool (logB_no (k := k) (by have := HN.out; omega) (by rw [HR.out, HOK.out]; rfl)).symm, allocB hb _⟩
        | true =>
          cases h1 : inB u 0 9 with
          | false =>
            have hok : okE ⟨t, u, v, x⟩ = false := by simp [okE, h1]
            have HOK := Lib.hid hok; clear hok
            rcases (inB_not _ _ _).1 h1 with hq | hq
            · clear h1
              go_wp2_with (go_at_call 46; refine (pv_any _ _).mono ?_; rintro e w' ⟨rfl, rfl⟩)
              go_ret
              exact ⟨ret_bool (logB_no (k := k) (by have := HN.out; omega) (by rw [HR.out, HOK.out]; rfl)).symm, allocB hb _⟩
            · clear h1
              go_wp2_with (go_at_call 46; refine (pv_any _ _).mono ?_; rintro e w' ⟨rfl, rfl⟩)
              go_ret
              exact ⟨ret_bool (logB_no (k := k) (by have := HN.out; omega) (by rw [HR.out, HOK.out]; rfl)).symm, allocB hb _⟩
          | true =>
            obtain ⟨lo1, hi1⟩ := (inB_iff _ _ _).1 h1
            cases h2 : inB v 1 99 with
            | false =>
              have hok : okE ⟨t, u, v, x⟩ = false := by simp [okE, h2]
              have HOK := Lib.hid hok; clear hok
              rcases (inB_not _ _ _).1 h2 with hq | hq
              · clear h2
                go_wp2_with (go_at_call 46; refine (pv_any _ _).mono ?_; rintro e w' ⟨rfl, rfl⟩)
                go_ret
                exact ⟨ret_bool (logB_no (k := k) (by have := HN.out; omega) (by rw [HR.out, HOK.out]; rfl)).symm, allocB hb _⟩
              · clear h2
                go_wp2_with (go_at_call 46; refine (pv_any _ _).mono ?_; rintro e w' ⟨rfl, rfl⟩)
                go_ret
                exact ⟨ret_bool (logB_no (k := k) (by have := HN.out; omega) (by rw [HR.out, HOK.out]; rfl)).symm, allocB hb _⟩
            | true =>
              obtain ⟨lo2, hi2⟩ := (inB_iff _ _ _).1 h2
              cases h3 : inB x 0 999 with
              | false =>
                have hok : okE ⟨t, u, v, x⟩ = false := by simp [okE, h3]
                have HOK := Lib.hid hok; clear hok
                go_wp2_with (go_at_call 46; refine (pv_any _ _).mono ?_; rintro e w' ⟨rfl, rfl⟩)
                go_ret
                exact ⟨ret_bool (logB_no (k := k) (by have := HN.out; omega) (by rw [HR.out, HOK.out]; rfl)).symm, allocB hb _⟩
              | true =>
                have hok : okE ⟨t, u, v, x⟩ = true := by simp [okE, h0, h1, h2, h3]
                have HOK := Lib.hid hok; clear hok
                cases hle : lessB ⟨t', u', v', x'⟩ ⟨t, u, v, x⟩ with
                | false =>
                  go_wp2_with (go_at_call 46; refine (pv_any _ _).mono ?_; rintro e w' ⟨rfl, rfl⟩)
                  have hba := allocB hb (Obj.cells #[.int .i64 t, .int .i64 u, .int .i64 v, .int .i64 x] 25)
                  have HAk := Lib.hid (((HA.out.below hb).below (allocB (Below.refl wr.heap.size wr) (Obj.cells #[.int .i64 t, .int .i64 u, .int .i64 v, .int .i64 x] 25))).takeEntry k)
                  have ha0 := (one_box wr #[.int .i64 t, .int .i64 u, .int .i64 v, .int .i64 x] 25 0).trans (show (#[.int .i64 t, .int .i64 u, .int .i64 v, .int .i64 x] : Array Value)[0]? = some (.int .i64 t) from rfl)
                  have ha1 := (one_box wr #[.int .i64 t, .int .i64 u, .int .i64 v, .int .i64 x] 25 1).trans (show (#[.int .i64 t, .int .i64 u, .int .i64 v, .int .i64 x] : Array Value)[1]? = some (.int .i64 u) from rfl)
                  have ha2 := (one_box wr #[.int .i64 t, .int .i64 u, .int .i64 v, .int .i64 x] 25 2).trans (show (#[.int .i64 t, .int .i64 u, .int .i64 v, .int .i64 x] : Array Value)[2]? = some (.int .i64 v) from rfl)
                  have ha3 := (one_box wr #[.int .i64 t, .int .i64 u, .int .i64 v, .int .i64 x] 25 3).trans (show (#[.int .i64 t, .int .i64 u, .int .i64 v, .int .i64 x] : Array Value)[3]? = some (.int .i64 x) from rfl)
                  replace hd0 := (World.cell?_alloc_lt wr (Obj.cells #[.int .i64 t, .int .i64 u, .int .i64 v, .int .i64 x] 25) ⟨b, o + (k - 1) * 4, none⟩ hbl).trans hd0
                  replace hd1 := (World.cell?_alloc_lt wr (Obj.cells #[.int .i64 t, .int .i64 u, .int .i64 v, .int .i64 x] 25) ⟨b, o + (k - 1) * 4 + 1, none⟩ hbl).trans hd1
                  replace hd2 := (World.cell?_alloc_lt wr (Obj.cells #[.int .i64 t, .int .i64 u, .int .i64 v, .int .i64 x] 25) ⟨b, o + (k - 1) * 4 + 2, none⟩ hbl).trans hd2
                  replace hd3 := (World.cell?_alloc_lt wr (Obj.cells #[.int .i64 t, .int .i64 u, .int .i64 v, .int .i64 x] 25) ⟨b, o + (k - 1) * 4 + 3, none⟩ hbl).trans hd3
                  clear hc0 hc1 hc2 hc3
                  generalize wr.alloc (Obj.cells #[.int .i64 t, .int .i64 u, .int .i64 v, .int .i64 x] 25) = wa at *
                  generalize wr.heap.size = Pb at *
                  have f0 : ∀ i : After wa, i.wd.cell? ⟨Pb, 0, none⟩ = some (.int .i64 t) := fun i => i.cell ha0
                  have f1 : ∀ i : After wa, i.wd.cell? ⟨Pb, 1, none⟩ = some (.int .i64 u) := fun i => i.cell ha1
                  have f2 : ∀ i : After wa, i.wd.cell? ⟨Pb, 2, none⟩ = some (.int .i64 v) := fun i => i.cell ha2
                  have f3 : ∀ i : After wa, i.wd.cell? ⟨Pb, 3, none⟩ = some (.int .i64 x) := fun i => i.cell ha3
                  have g0 : ∀ i : After wa, i.wd.cell? ⟨b, o + (k - 1) * 4, none⟩ = some (.int .i64 t') := fun i => i.cell hd0
                  have g1 : ∀ i : After wa, i.wd.cell? ⟨b, o + (k - 1) * 4 + 1, none⟩ = some (.int .i64 u') := fun i => i.cell hd1
                  have g2 : ∀ i : After wa, i.wd.cell? ⟨b, o + (k - 1) * 4 + 2, none⟩ = some (.int .i64 v') := fun i => i.cell hd2
                  have g3 : ∀ i : After wa, i.wd.cell? ⟨b, o + (k - 1) * 4 + 3, none⟩ = some (.int .i64 x') := fun i => i.cell hd3
                  refine wp_region_after (by kernel_rfl) (by kernel_rfl) ?_
                  repeat (go_big_quiet_step ((first | (go_at_call 26; exact after_call (elI _ _ _ _ _ _ _ _ _)) | (go_at_call 47; exact after_call (containsF _ _ _ (l.take k) _ _ _ _ _ HTk.out (by omega) (HAk.out.below (After.below _)))))))
                  refine wpQuiet_nil ?_
                  rintro _ ⟨i2, rfl⟩
                  have hb2 := hba.trans (i2.below.mono hba.size)
                  clear f0 f1 f2 f3 g0 g1 g2 g3
                  generalize i2.wd = w2 at *
                  go_wp2_with fail
                  go_ret
                  exact ⟨ret_bool (logB_no (k := k) (by have := HN.out; omega) (by rw [HR.out, HOK.out, hle]; rfl)).symm, hb2⟩
                | true =>
                  cases hfd : decide (0 ≤ findI (l.take k) u v) with
                  | true =>
                    go_wp2_with (go_at_call 46; refine (pv_any _ _).mono ?_; rintro e w' ⟨rfl, rfl⟩)
                    have hba := allocB hb (Obj.cells #[.int .i64 t, .int .i64 u, .int .i64 v, .int .i64 x] 25)
                    have HAk := Lib.hid (((HA.out.below hb).below (allocB (Below.refl wr.heap.size wr) (Obj.cells #[.int .i64 t, .int .i64 u, .int .i64 v, .int .i64 x] 25))).takeEntry k)
                    have ha0 := (one_box wr #[.int .i64 t, .int .i64 u, .int .i64 v, .int .i64 x] 25 0).trans (show (#[.int .i64 t, .int .i64 u, .int .i64 v, .int .i64 x] : Array Value)[0]? = some (.int .i64 t) from rfl)
                    have ha1 := (one_box wr #[.int .i64 t, .int .i64 u, .int .i64 v, .int .i64 x] 25 1).trans (show (#[.int .i64 t, .int .i64 u, .int .i64 v, .int .i64 x] : Array Value)[1]? = some (.int .i64 u) from rfl)
                    have ha2 := (one_box wr #[.int .i64 t, .int .i64 u, .int .i64 v, .int .i64 x] 25 2).trans (show (#[.int .i64 t, .int .i64 u, .int .i64 v, .int .i64 x] : Array Value)[2]? = some (.int .i64 v) from rfl)
                    have ha3 := (one_box wr #[.int .i64 t, .int .i64 u, .int .i64 v, .int .i64 x] 25 3).trans (show (#[.int .i64 t, .int .i64 u, .int .i64 v, .int .i64 x] : Array Value)[3]? = some (.int .i64 x) from rfl)
                    replace hd0 := (World.cell?_alloc_lt wr (Obj.cells #[.int .i64 t, .int .i64 u, .int .i64 v, .int .i64 x] 25) ⟨b, o + (k - 1) * 4, none⟩ hbl).trans hd0
                    replace hd1 := (World.cell?_alloc_lt wr (Obj.cells #[.int .i64 t, .int .i64 u, .int .i64 v, .int .i64 x] 25) ⟨b, o + (k - 1) * 4 + 1, none⟩ hbl).trans hd1
                    replace hd2 := (World.cell?_alloc_lt wr (Obj.cells #[.int .i64 t, .int .i64 u, .int .i64 v, .int .i64 x] 25) ⟨b, o + (k - 1) * 4 + 2, none⟩ hbl).trans hd2
                    replace hd3 := (World.cell?_alloc_lt wr (Obj.cells #[.int .i64 t, .int .i64 u, .int .i64 v, .int .i64 x] 25) ⟨b, o + (k - 1) * 4 + 3, none⟩ hbl).trans hd3
                    clear hc0 hc1 hc2 hc3
                    generalize wr.alloc (Obj.cells #[.int .i64 t, .int .i64 u, .int .i64 v, .int .i64 x] 25) = wa at *
                    generalize wr.heap.size = Pb at *
                    have f0 : ∀ i : After wa, i.wd.cell? ⟨Pb, 0, none⟩ = some (.int .i64 t) := fun i => i.cell ha0
                    have f1 : ∀ i : After wa, i.wd.cell? ⟨Pb, 1, none⟩ = some (.int .i64 u) := fun i => i.cell ha1
                    have f2 : ∀ i : After wa, i.wd.cell? ⟨Pb, 2, none⟩ = some (.int .i64 v) := fun i => i.cell ha2
                    have f3 : ∀ i : After wa, i.wd.cell? ⟨Pb, 3, none⟩ = some (.int .i64 x) := fun i => i.cell ha3
                    have g0 : ∀ i : After wa, i.wd.cell? ⟨b, o + (k - 1) * 4, none⟩ = some (.int .i64 t') := fun i => i.cell hd0
                    have g1 : ∀ i : After wa, i.wd.cell? ⟨b, o + (k - 1) * 4 + 1, none⟩ = some (.int .i64 u') := fun i => i.cell hd1
                    have g2 : ∀ i : After wa, i.wd.cell? ⟨b, o + (k - 1) * 4 + 2, none⟩ = some (.int .i64 v') := fun i => i.cell hd2
                    have g3 : ∀ i : After wa, i.wd.cell? ⟨b, o + (k - 1) * 4 + 3, none⟩ = some (.int .i64 x') := fun i => i.cell hd3
                    refine wp_region_after (by kernel_rfl) (by kernel_rfl) ?_
                    repeat (go_big_quiet_step ((first | (go_at_call 26; exact after_call (elI _ _ _ _ _ _ _ _ _)) | (go_at_call 47; exact after_call (containsF _ _ _ (l.take k) _ _ _ _ _ HTk.out (by omega) (HAk.out.below (After.below _)))))))
                    refine wpQuiet_nil ?_
                    rintro _ ⟨i2, rfl⟩
                    have hb2 := hba.trans (i2.below.mono hba.size)
                    clear f0 f1 f2 f3 g0 g1 g2 g3
                    generalize i2.wd = w2 at *
                    go_wp2_with fail
                    go_ret
                    exact ⟨ret_bool (logB_no (k := k) (by have := HN.out; omega) (by rw [HR.out, HOK.out, hle, HX.out, hfd]; rfl)).symm, hb2⟩
                  | false =>
                    go_wp2_with (go_at_call 46; refine (pv_any _ _).mono ?_; rintro e w' ⟨rfl, rfl⟩)
                    have hba := allocB hb (Obj.cells #[.int .i64 t, .int .i64 u, .int .i64 v, .int .i64 x] 25)
                    have HAk := Lib.hid (((HA.out.below hb).below (allocB (Below.refl wr.heap.size wr) (Obj.cells #[.int .i64 t, .int .i64 u, .int .i64 v, .int .i64 x] 25))).takeEntry k)
                    have ha0 := (one_box wr #[.int .i64 t, .int .i64 u, .int .i64 v, .int .i64 x] 25 0).trans (show (#[.int .i64 t, .int .i64 u, .int .i64 v, .int .i64 x] : Array Value)[0]? = some (.int .i64 t) from rfl)
                    have ha1 := (one_box wr #[.int .i64 t, .int .i64 u, .int .i64 v, .int .i64 x] 25 1).trans (show (#[.int .i64 t, .int .i64 u, .int .i64 v, .int .i64 x] : Array Value)[1]? = some (.int .i64 u) from rfl)
                    have ha2 := (one_box wr #[.int .i64 t, .int .i64 u, .int .i64 v, .int .i64 x] 25 2).trans (show (#[.int .i64 t, .int .i64 u, .int .i64 v, .int .i64 x] : Array Value)[2]? = some (.int .i64 v) from rfl)
                    have ha3 := (one_box wr #[.int .i64 t, .int .i64 u, .int .i64 v, .int .i64 x] 25 3).trans (show (#[.int .i64 t, .int .i64 u, .int .i64 v, .int .i64 x] : Array Value)[3]? = some (.int .i64 x) from rfl)
                    replace hd0 := (World.cell?_alloc_lt wr (Obj.cells #[.int .i64 t, .int .i64 u, .int .i64 v, .int .i64 x] 25) ⟨b, o + (k - 1) * 4, none⟩ hbl).trans hd0
                    replace hd1 := (World.cell?_alloc_lt wr (Obj.cells #[.int .i64 t, .int .i64 u, .int .i64 v, .int .i64 x] 25) ⟨b, o + (k - 1) * 4 + 1, none⟩ hbl).trans hd1
                    replace hd2 := (World.cell?_alloc_lt wr (Obj.cells #[.int .i64 t, .int .i64 u, .int .i64 v, .int .i64 x] 25) ⟨b, o + (k - 1) * 4 + 2, none⟩ hbl).trans hd2
                    replace hd3 := (World.cell?_alloc_lt wr (Obj.cells #[.int .i64 t, .int .i64 u, .int .i64 v, .int .i64 x] 25) ⟨b, o + (k - 1) * 4 + 3, none⟩ hbl).trans hd3
                    clear hc0 hc1 hc2 hc3
                    generalize wr.alloc (Obj.cells #[.int .i64 t, .int .i64 u, .int .i64 v, .int .i64 x] 25) = wa at *
                    generalize wr.heap.size = Pb at *
                    have f0 : ∀ i : After wa, i.wd.cell? ⟨Pb, 0, none⟩ = some (.int .i64 t) := fun i => i.cell ha0
                    have f1 : ∀ i : After wa, i.wd.cell? ⟨Pb, 1, none⟩ = some (.int .i64 u) := fun i => i.cell ha1
                    have f2 : ∀ i : After wa, i.wd.cell? ⟨Pb, 2, none⟩ = some (.int .i64 v) := fun i => i.cell ha2
                    have f3 : ∀ i : After wa, i.wd.cell? ⟨Pb, 3, none⟩ = some (.int .i64 x) := fun i => i.cell ha3
                    have g0 : ∀ i : After wa, i.wd.cell? ⟨b, o + (k - 1) * 4, none⟩ = some (.int .i64 t') := fun i => i.cell hd0
                    have g1 : ∀ i : After wa, i.wd.cell? ⟨b, o + (k - 1) * 4 + 1, none⟩ = some (.int .i64 u') := fun i => i.cell hd1
                    have g2 : ∀ i : After wa, i.wd.cell? ⟨b, o + (k - 1) * 4 + 2, none⟩ = some (.int .i64 v') := fun i => i.cell hd2
                    have g3 : ∀ i : After wa, i.wd.cell? ⟨b, o + (k - 1) * 4 + 3, none⟩ = some (.int .i64 x') := fun i => i.cell hd3
                    refine wp_region_after (by kernel_rfl) (by kernel_rfl) ?_
                    repeat (go_big_quiet_step ((first | (go_at_call 26; exact after_call (elI _ _ _ _ _ _ _ _ _)) | (go_at_call 47; exact after_call (containsF _ _ _ (l.take k) _ _ _ _ _ HTk.out (by omega) (HAk.out.below (After.below _)))))))
                    refine wpQuiet_nil ?_
                    rintro _ ⟨i2, rfl⟩
                    have hb2 := hba.trans (i2.below.mono hba.size)
                    clear f0 f1 f2 f3 g0 g1 g2 g3
                    generalize i2.wd = w2 at *
                    go_wp2_with fail
                    go_roundw
                    case rel => exact ⟨k + 1, by omega, by go_num, all_range_succ hp (by rw [HR.out, HOK.out, hle, HX.out, hfd]; rfl), hb2⟩
                    case measure => simp [intOf]; omega
    · go_wp2_with fail
      go_ret
      refine ⟨ret_bool ?_, hb⟩
      have hq := HN.out
      have hkn : k = n := by omega
      subst hkn
      rw [logB, hq, hp.out, decide_eq_true hmax]; rfl
end Go.Proofs.YtdlphgknplomkaaDoor
