/- The library's Grow and Concat at entries. No statement is proved here. -/
import Derived.Test.YtdlphgknplomkaaCmpW
import Derived.Test.YtdlphgknplomkaaLogK
import Derived.Test.YtdlphgknplomkaaApp
namespace Go.Proofs.Ytdlphgknplomkaa
open Go.RowKit
set_option maxHeartbeats 1000000 in
theorem growE (n : Nat) (w : World) (hn : n ≤ 200000) : Calls Try.prog 38 #[.slice none 0 0, .int .i64 n] w fun e w' =>
    ∃ B c, e = .returned (.slice B 0 c) ∧ w'.ownsRow w.heap.size 30 4 (.slice B 0 c) 0 [] ∧ Below w.heap.size w w' := by
  by_cases h0 : n = 0
  · subst h0
    go_enter Try.func38, Try.ntmps38
    go_wp2_with fail
    go_ret
    exact ⟨none, 0, rfl, row_zero, Below.refl _ _⟩
  · obtain ⟨i0, hi0, hz0, hz1, hz2⟩ := info_parts info_Entry
    obtain ⟨C, hC⟩ : ∃ C, C = grownCap w (0 + n) 0 30 := ⟨_, rfl⟩
    obtain ⟨Z, hZ⟩ : ∃ Z : Array Value, Z = (#[] : Array Value) ++ Builtin.zeroCells (Value.agg #[.int .i64 0, .int .i64 0, .int .i64 0, .int .i64 0]).cells n ++ Builtin.zeroCells (Value.agg #[.int .i64 0, .int .i64 0, .int .i64 0, .int .i64 0]).cells (C - (0 + n)) := ⟨_, rfl⟩
    have hCn : 0 + n ≤ C := by rw [hC]; exact grownCap_ge w _ _ _
    have hCm : C ≤ maxLen := by rw [hC]; exact grownCap_le_maxLen w (0 + n) 0 _ (by unfold maxLen; omega)
    have hZl : Z.size = C * 4 := by
      rw [hZ]
      have hs : ∀ k, (Builtin.zeroCells (Value.agg #[.int .i64 0, .int .i64 0, .int .i64 0, .int .i64 0]).cells k).size = k * 4 := fun k => by simp [Builtin.zeroCells, Value.cells]
      simp only [Array.size_append, hs, Array.size_empty]; omega
    have hold : (Builtin.firstCells i0.size 0 (.slice none 0 0)).run Try.prog w.drew = .ok ([] : List Value).toArray w.drew := rfl
    have hrz : ∀ ty, (Builtin.append_ #[26, 3] ty #[.slice none 0 0, .int .i64 (n : Int)]).run Try.prog w = .ok (.slice (some ⟨w.heap.size, 0, none⟩) n C) (w.drew.alloc (.cells Z 30)) := fun ty => by
      have h := Lib.run_append_grow_zeros w 26 3 ty 30 i0 _ .i64 .i64 Try.underlying26 Try.underlying3 hi0 hz0 none 0 0 [] hold n (by omega) (by omega) (by omega) (by omega) (by rw [hz2]; omega) (by rw [hz2]; exact growslice_fits (by omega) (by omega))
      rw [← hC] at h
      rw [h, hZ, Nat.zero_add]
    have hn0 : (0 : Int) < (n : Int) := by omega
    have hfin : (w.drew.alloc (.cells Z 30)).ownsRow w.heap.size 30 4 (.slice (some ⟨w.heap.size, 0, none⟩) 0 C) 0 [] := ⟨by simp, .inr ⟨w.heap.size, C, Z, rfl, Nat.le_refl _, heap_alloc_new w.drew _, Nat.zero_le _, hCm, hZl, by simp⟩⟩
    have HF := Lib.hid hfin
    have HB : Hid (Below w.heap.size w (w.drew.alloc (.cells Z 30))) := allocB (drew1B (Below.refl _ _)) _
    clear hi0 hz0 hz1 hz2 hC hZ hCn hCm hZl hold hfin
    go_enter Try.func38, Try.ntmps38
    go_wp2_with (at_builtin; refine Lib.wpList_append_run _ rfl _ _ _ _ rfl _ _ rfl rfl _ _ (hrz _) ?_)
    go_ret
    exact ⟨_, _, rfl, HF.out, HB.out⟩

/-- a slice of entries as a record -/
structure SE where
  A : Option Addr
  c : Nat
  l : List Entry
def SE.cells (r : SE) : List Value := [.slice r.A r.l.length r.c]
def SE.zero : SE := ⟨none, 0, []⟩
def flatSE (rs : List SE) : List Value := rs.flatMap SE.cells
theorem flatSE_length (rs : List SE) : (flatSE rs).length = rs.length * 1 := flat_length SE.cells 1 (fun _ => rfl) rs
def catE (rs : List SE) : List Entry := rs.flatMap SE.l
theorem catE_succ (rs : List SE) (k : Nat) (h : k < rs.length) : catE (rs.take (k + 1)) = catE (rs.take k) ++ (rs.getD k SE.zero).l := by
  rw [List.take_succ_eq_append_getElem h, catE, List.flatMap_append]; simp [catE, h]
theorem catE_le (rs : List SE) (k : Nat) : (catE (rs.take k)).length ≤ (catE rs).length := by
  have h : catE rs = catE (rs.take k) ++ catE (rs.drop k) := by
    simp only [catE]; rw [← List.flatMap_append, List.take_append_drop]
  rw [h, List.length_append]; omega
theorem RdSE.at {w : World} {A : Option Addr} {rs : List SE} (h : Rd w A (flatSE rs)) {k : Nat} (hk : k < rs.length) :
    ∃ b o, A = some ⟨b, o, none⟩ ∧ b < w.heap.size ∧ w.cell? ⟨b, o + k, none⟩ = some (.slice (rs.getD k SE.zero).A (rs.getD k SE.zero).l.length (rs.getD k SE.zero).c) := by
  obtain ⟨b, o, e, hlt, hc⟩ := h (by rw [flatSE_length]; omega)
  refine ⟨b, o, e, hlt, ?_⟩
  have := hc (k * 1 + 0) _ ((flat_get SE.cells 1 (fun _ => rfl) SE.zero rs k 0 hk (by omega)).trans rfl); simpa using this
set_option maxHeartbeats 1000000 in
theorem concatE (A : Option Addr) (m c : Nat) (rs : List SE) (w : World) (hn : rs.length = m) (hm : m ≤ 3) (ht : (catE rs).length ≤ 100000) (hA : Rd w A (flatSE rs)) (hB : ∀ k, k < m → Rd w (rs.getD k SE.zero).A (flatEntry (rs.getD k SE.zero).l)) (hnil : ∀ k, k < m → (rs.getD k SE.zero).A = none → (rs.getD k SE.zero).l.length = 0 ∧ (rs.getD k SE.zero).c = 0) :
    Calls Try.prog 25 #[.slice A m c] w (RetRow 30 4 (flatEntry (catE rs)) (catE rs).length w) := by
  have HA := Lib.hid hA; clear hA
  have HN := Lib.hid hn; clear hn
  have HB := Lib.hid hB; clear hB
  have HNIL := Lib.hid hnil; clear hnil
  obtain ⟨i0, hi0, hz0, hz1, hz2⟩ := info_parts info_Entry
  have HI := Lib.hid (And.intro hi0 (And.intro hz0 (And.intro hz1 hz2))); clear hi0 hz0 hz1 hz2
  go_enter Try.func25, Try.ntmps25
  go_wp2_with fail
  go_loop [3, 11] (fun s i => ∃ k : Nat, k ≤ m ∧ i = .int .i64 k ∧ s = .int .i64 ((catE (rs.take k)).length : Nat)) (fun _ i => m - (intOf i).toNat)
  case atStart => exact ⟨0, by omega, rfl, rfl⟩
  case round =>
    obtain ⟨k, hk, rfl, rfl⟩ := hrel
    by_cases hlt : k < m
    · obtain ⟨b, o, rfl, hbl, hc0⟩ := RdSE.at HA.out (k := k) (by rw [HN.out]; exact hlt)
      have HS := Lib.hid (catE_succ rs k (by rw [HN.out]; exact hlt))
      have hle := catE_le rs k
      have hle1 := catE_le rs (k + 1)
      have hl1 : (catE (rs.take (k + 1))).length = (catE (rs.take k)).length + (rs.getD k SE.zero).l.length := by rw [HS.out, List.length_append]
      generalize (rs.getD k SE.zero).l.length = n1 at *
      generalize hT : (catE (rs.take k)).length = T at *
      generalize hT1 : (catE (rs.take (k + 1))).length = T1 at *
      have HT1 := Lib.hid hT1; clear hT1 hT
      have hki : (k : Int) < (m : Int) := by omega
      have HL1 := Lib.hid hl1
      have hb1 : T + n1 ≤ 100000 := by omega
      clear hl1
      go_wp2_with fail
      go_round
      case rel => exact ⟨k + 1, by omega, by go_num, by have h1 := HT1.out; have h2 := HL1.out; rw [h1, h2]; go_num⟩
      case measure => simp [intOf]; omega
    · have hkm : k = m := by omega
      have hki : ¬ ((k : Int) < (m : Int)) := by omega
      have HCT : Hid (catE (rs.take k) = catE rs) := by rw [Hid, hkm, List.take_of_length_le (by rw [HN.out]; exact Nat.le_refl _)]
      rw [HCT.out]
      clear hkm
      generalize hT : (catE rs).length = T at *
      have HT := Lib.hid hT; clear hT
      go_wp2_with fail
      refine (growE T w (by omega)).mono ?_
      rintro e w1 ⟨B, c1, rfl, hr, hb⟩
      have HR := Lib.hid hr; clear hr
      go_wp2_with fail
      go_loopw [6, 27] (fun v i wr => ∃ k : Nat, k ≤ m ∧ i = .int .i64 k ∧ (∃ B d, v = .slice B (catE (rs.take k)).length d ∧ Hid (wr.ownsRow w.heap.size 30 4 (.slice B (catE (rs.take k)).length d) (catE (rs.take k)).length (flatEntry (catE (rs.take k))))) ∧ Hid (Below w.heap.size w wr)) (fun _ i _ => m - (intOf i).toNat)
      case atStart => exact ⟨0, by omega, rfl, ⟨_, _, rfl, HR.out⟩, hb⟩
      case round =>
        clear HR hb
        obtain ⟨j, hj, rfl, ⟨B, d, rfl, HR⟩, hb⟩ := hrel
        by_cases hlt2 : j < m
        · obtain ⟨b, o, rfl, hbl, hc0⟩ := RdSE.at HA.out (k := j) (by rw [HN.out]; exact hlt2)
          have HS := Lib.hid (catE_succ rs j (by rw [HN.out]; exact hlt2))
          have hle := catE_le rs j
          have hle1 := catE_le rs (j + 1)
          have hrb := (HB.out j hlt2).below hb.out
          have HNL := Lib.hid (HNIL.out j hlt2)
          have hl1 : (catE (rs.take (j + 1))).length = (catE (rs.take j)).length + (rs.getD j SE.zero).l.length := by rw [HS.out, List.length_append]
          generalize rs.getD j SE.zero = r at *
          obtain ⟨RA, rc, rl⟩ := r
          dsimp only at hc0 hrb HNL HS hl1
          have hd0 := (hb.out.cell (p := ⟨b, o + j, none⟩) hbl).trans hc0; clear hc0
          have hki2 : (j : Int) < (m : Int) := by omega
          have hown := HR.out
          have hbs := hb.out.size
          rw [HT.out] at hle hle1
          have HL1 := Lib.hid hl1
          have hb1 : (catE (rs.take j)).length + rl.length ≤ 100000 := by omega
          clear hl1 HR
          generalize hT0 : (catE (rs.take j)).length = T0 at *
          have HT0 := Lib.hid hT0; clear hT0
          go_wp2_with (at_builtin; refine wpList_appN wr rfl _ _ _ rfl w.heap.size 30 i0 _ 4 32 Try.underlying26 HI.out rfl (by omega) (.slice B T0 d) T0 _ rfl hown RA rl.length rc (flatEntry rl) rfl (flatE_len _ _ rfl) hrb HNL.out (flatE_one _) (by omega) (by omega) hbs ?_; intro v' w3 hown3 hg3)
          have hb3 := grown_row hb.out rfl hown hg3
          obtain ⟨B3, d3, rfl, hr3⟩ := row_is (n' := (catE (rs.take (j + 1))).length) (cs' := flatEntry (catE (rs.take (j + 1)))) hown3 (by rw [HL1.out]) (by rw [HS.out]; exact flatE_app _ _)
          have HR3 := Lib.hid hr3
          clear hown3 hg3 hr3 hown hrb hd0
          go_roundw
          case rel => exact ⟨j + 1, by omega, by go_num, ⟨_, _, rfl, HR3⟩, hb3⟩
          case measure => simp [intOf]; omega
        · have hki2 : ¬ ((j : Int) < (m : Int)) := by omega
          have hjm : j = m := by omega
          have HCT2 : Hid (catE (rs.take j) = catE rs) := by rw [Hid, hjm, List.take_of_length_le (by rw [HN.out]; exact Nat.le_refl _)]
          clear hjm
          rw [HCT2.out, HT.out] at HR ⊢
          go_wp2_with fail
          go_ret
          exact ⟨B, d, rfl, HR.out, hb.out⟩
end Go.Proofs.Ytdlphgknplomkaa
