/- The walk of FnPollValid: it returns true, and writes nothing that was there. -/
import Derived.Test.YthekihggedgofaaDoorPolU
import Derived.Test.YthekihggedgofaaDoorLawI
namespace Go.Proofs.YthekihggedgofaaDoor.lPoV
open Go.RowKit Go.Proofs.YthekihggedgofaaDoor

theorem pollB_two {S L K T E : Int} {G Q : List Int} : pollB 2 S L K T E G Q = false := by
  unfold pollB; rw [show inB 2 0 1 = false from rfl]; rfl
theorem pollB_new : pollB 0 1 (-1) (-1) (-1) (-1) [] [] = true := by decide

set_option maxRecDepth 100000 in
set_option maxHeartbeats 4000000 in
theorem walk (w : World) (A : Option Addr) (m c : Nat) (hc : m ≤ c) (hm : m ≤ maxLen) (hA : RdB w A m) :
    Calls Tryd.prog 3 #[.slice A m c] w fun e w' => e = .returned (.bool true) ∧ Below w.heap.size w w' := by
  unfold maxLen at hm
  by_cases hs : m ≤ 1048576
  case neg =>
    go_enter Tryd.func3, Tryd.ntmps3
    go_wp2_with fail
    go_ret
    exact ⟨rfl, Below.refl _ _⟩
  have HA := Lib.hid hA; clear hA
  have hb : Below w.heap.size w w := Below.refl _ _
  go_enter Tryd.func3, Tryd.ntmps3
  go_wp2_with fail
  refine (dDrawPollValid A m c w hc hs HA.out).mono ?_
  rintro e w1 ⟨M, B1, n1, d1, G, S, B3, n3, d3, Q, L, K, T, E, rfl, h1, h3, o1, o3, hbn⟩
  replace hb := seqB hb hbn
  clear hbn
  have HN1 : Hid (G.length = n1) := by have hq := o1.1; rw [ints_length] at hq; exact hq
  have HN3 : Hid (Q.length = n3) := by have hq := o3.1; rw [ints_length] at hq; exact hq
  have HZ1 := Lib.hid o1.nil; have HZ3 := Lib.hid o3.nil
  have hr1 := o1.rd; have hr3 := o3.rd
  clear o1 o3
  have hbox := new_box w1 (.cells #[.int .i64 M, .slice B1 n1 d1, .int .i64 S, .slice B3 n3 d3, .int .i64 L, .int .i64 K, .int .i64 T, .int .i64 E] 25)
  have g0 : (w1.alloc (.cells #[.int .i64 M, .slice B1 n1 d1, .int .i64 S, .slice B3 n3 d3, .int .i64 L, .int .i64 K, .int .i64 T, .int .i64 E] 25)).cell? ⟨w1.heap.size, 0, none⟩ = some (.int .i64 M) := box_cell hbox 0
  have g1 : (w1.alloc (.cells #[.int .i64 M, .slice B1 n1 d1, .int .i64 S, .slice B3 n3 d3, .int .i64 L, .int .i64 K, .int .i64 T, .int .i64 E] 25)).cell? ⟨w1.heap.size, 1, none⟩ = some (.slice B1 n1 d1) := box_cell hbox 1
  have g2 : (w1.alloc (.cells #[.int .i64 M, .slice B1 n1 d1, .int .i64 S, .slice B3 n3 d3, .int .i64 L, .int .i64 K, .int .i64 T, .int .i64 E] 25)).cell? ⟨w1.heap.size, 2, none⟩ = some (.int .i64 S) := box_cell hbox 2
  have g3 : (w1.alloc (.cells #[.int .i64 M, .slice B1 n1 d1, .int .i64 S, .slice B3 n3 d3, .int .i64 L, .int .i64 K, .int .i64 T, .int .i64 E] 25)).cell? ⟨w1.heap.size, 3, none⟩ = some (.slice B3 n3 d3) := box_cell hbox 3
  have g4 : (w1.alloc (.cells #[.int .i64 M, .slice B1 n1 d1, .int .i64 S, .slice B3 n3 d3, .int .i64 L, .int .i64 K, .int .i64 T, .int .i64 E] 25)).cell? ⟨w1.heap.size, 4, none⟩ = some (.int .i64 L) := box_cell hbox 4
  have g5 : (w1.alloc (.cells #[.int .i64 M, .slice B1 n1 d1, .int .i64 S, .slice B3 n3 d3, .int .i64 L, .int .i64 K, .int .i64 T, .int .i64 E] 25)).cell? ⟨w1.heap.size, 5, none⟩ = some (.int .i64 K) := box_cell hbox 5
  have g6 : (w1.alloc (.cells #[.int .i64 M, .slice B1 n1 d1, .int .i64 S, .slice B3 n3 d3, .int .i64 L, .int .i64 K, .int .i64 T, .int .i64 E] 25)).cell? ⟨w1.heap.size, 6, none⟩ = some (.int .i64 T) := box_cell hbox 6
  have g7 : (w1.alloc (.cells #[.int .i64 M, .slice B1 n1 d1, .int .i64 S, .slice B3 n3 d3, .int .i64 L, .int .i64 K, .int .i64 T, .int .i64 E] 25)).cell? ⟨w1.heap.size, 7, none⟩ = some (.int .i64 E) := box_cell hbox 7
  have hb1 := allocB hb (.cells #[.int .i64 M, .slice B1 n1 d1, .int .i64 S, .slice B3 n3 d3, .int .i64 L, .int .i64 K, .int .i64 T, .int .i64 E] 25)
  have hq1 := hr1.below (allocB (Below.refl w1.heap.size w1) (.cells #[.int .i64 M, .slice B1 n1 d1, .int .i64 S, .slice B3 n3 d3, .int .i64 L, .int .i64 K, .int .i64 T, .int .i64 E] 25))
  have hq3 := hr3.below (allocB (Below.refl w1.heap.size w1) (.cells #[.int .i64 M, .slice B1 n1 d1, .int .i64 S, .slice B3 n3 d3, .int .i64 L, .int .i64 K, .int .i64 T, .int .i64 E] 25))
  go_wp2_with fail
  replace hb := hb1; replace hr1 := hq1; replace hr3 := hq3; clear hb1 hq1 hq3
  refine (implPV M B1 n1 d1 G S B3 n3 d3 Q L K T E _ HN1.out (by omega) hr1 HN3.out (by omega) hr3 HZ1.out HZ3.out).mono ?_
  rintro e w2 ⟨rfl, hbn⟩
  replace hb := seqB hb hbn
  replace hbox := be_box hbox hbn
  replace hr1 := hr1.below hbn
  replace hr3 := hr3.below hbn
  clear hbn
  clear g0 g1 g2 g3 g4 g5 g6 g7
  have g0 : w2.cell? ⟨w1.heap.size, 0, none⟩ = some (.int .i64 M) := box_cell hbox 0
  have g1 : w2.cell? ⟨w1.heap.size, 1, none⟩ = some (.slice B1 n1 d1) := box_cell hbox 1
  have g2 : w2.cell? ⟨w1.heap.size, 2, none⟩ = some (.int .i64 S) := box_cell hbox 2
  have g3 : w2.cell? ⟨w1.heap.size, 3, none⟩ = some (.slice B3 n3 d3) := box_cell hbox 3
  have g4 : w2.cell? ⟨w1.heap.size, 4, none⟩ = some (.int .i64 L) := box_cell hbox 4
  have g5 : w2.cell? ⟨w1.heap.size, 5, none⟩ = some (.int .i64 K) := box_cell hbox 5
  have g6 : w2.cell? ⟨w1.heap.size, 6, none⟩ = some (.int .i64 T) := box_cell hbox 6
  have g7 : w2.cell? ⟨w1.heap.size, 7, none⟩ = some (.int .i64 E) := box_cell hbox 7
  cases hv : pollB M S L K T E G Q with
  | false =>
    go_wp2_with fail
    refine (specPV M B1 n1 d1 G S B3 n3 d3 Q L K T E _ HN1.out (by omega) hr1 HN3.out (by omega) hr3).mono ?_
    rintro e w3 ⟨rfl, hbn⟩
    replace hb := seqB hb hbn
    replace hbox := be_box hbox hbn
    replace hr1 := hr1.below hbn
    replace hr3 := hr3.below hbn
    clear hbn
    rw [hv]
    clear g0 g1 g2 g3 g4 g5 g6 g7
    clear hv
    have g0 : w3.cell? ⟨w1.heap.size, 0, none⟩ = some (.int .i64 M) := box_cell hbox 0
    have g1 : w3.cell? ⟨w1.heap.size, 1, none⟩ = some (.slice B1 n1 d1) := box_cell hbox 1
    have g2 : w3.cell? ⟨w1.heap.size, 2, none⟩ = some (.int .i64 S) := box_cell hbox 2
    have g3 : w3.cell? ⟨w1.heap.size, 3, none⟩ = some (.slice B3 n3 d3) := box_cell hbox 3
    have g4 : w3.cell? ⟨w1.heap.size, 4, none⟩ = some (.int .i64 L) := box_cell hbox 4
    have g5 : w3.cell? ⟨w1.heap.size, 5, none⟩ = some (.int .i64 K) := box_cell hbox 5
    have g6 : w3.cell? ⟨w1.heap.size, 6, none⟩ = some (.int .i64 T) := box_cell hbox 6
    have g7 : w3.cell? ⟨w1.heap.size, 7, none⟩ = some (.int .i64 E) := box_cell hbox 7
    have hx := new_box w3 (.cells #[.int .i64 2, .slice B1 n1 d1, .int .i64 S, .slice B3 n3 d3, .int .i64 L, .int .i64 K, .int .i64 T, .int .i64 E] 25)
    have x0 : (w3.alloc (.cells #[.int .i64 2, .slice B1 n1 d1, .int .i64 S, .slice B3 n3 d3, .int .i64 L, .int .i64 K, .int .i64 T, .int .i64 E] 25)).cell? ⟨w3.heap.size, 0, none⟩ = some (.int .i64 2) := box_cell hx 0
    have x1 : (w3.alloc (.cells #[.int .i64 2, .slice B1 n1 d1, .int .i64 S, .slice B3 n3 d3, .int .i64 L, .int .i64 K, .int .i64 T, .int .i64 E] 25)).cell? ⟨w3.heap.size, 1, none⟩ = some (.slice B1 n1 d1) := box_cell hx 1
    have x2 : (w3.alloc (.cells #[.int .i64 2, .slice B1 n1 d1, .int .i64 S, .slice B3 n3 d3, .int .i64 L, .int .i64 K, .int .i64 T, .int .i64 E] 25)).cell? ⟨w3.heap.size, 2, none⟩ = some (.int .i64 S) := box_cell hx 2
    have x3 : (w3.alloc (.cells #[.int .i64 2, .slice B1 n1 d1, .int .i64 S, .slice B3 n3 d3, .int .i64 L, .int .i64 K, .int .i64 T, .int .i64 E] 25)).cell? ⟨w3.heap.size, 3, none⟩ = some (.slice B3 n3 d3) := box_cell hx 3
    have x4 : (w3.alloc (.cells #[.int .i64 2, .slice B1 n1 d1, .int .i64 S, .slice B3 n3 d3, .int .i64 L, .int .i64 K, .int .i64 T, .int .i64 E] 25)).cell? ⟨w3.heap.size, 4, none⟩ = some (.int .i64 L) := box_cell hx 4
    have x5 : (w3.alloc (.cells #[.int .i64 2, .slice B1 n1 d1, .int .i64 S, .slice B3 n3 d3, .int .i64 L, .int .i64 K, .int .i64 T, .int .i64 E] 25)).cell? ⟨w3.heap.size, 5, none⟩ = some (.int .i64 K) := box_cell hx 5
    have x6 : (w3.alloc (.cells #[.int .i64 2, .slice B1 n1 d1, .int .i64 S, .slice B3 n3 d3, .int .i64 L, .int .i64 K, .int .i64 T, .int .i64 E] 25)).cell? ⟨w3.heap.size, 6, none⟩ = some (.int .i64 T) := box_cell hx 6
    have x7 : (w3.alloc (.cells #[.int .i64 2, .slice B1 n1 d1, .int .i64 S, .slice B3 n3 d3, .int .i64 L, .int .i64 K, .int .i64 T, .int .i64 E] 25)).cell? ⟨w3.heap.size, 7, none⟩ = some (.int .i64 E) := box_cell hx 7
    have hb1 := allocB hb (.cells #[.int .i64 2, .slice B1 n1 d1, .int .i64 S, .slice B3 n3 d3, .int .i64 L, .int .i64 K, .int .i64 T, .int .i64 E] 25)
    have hq1 := hr1.below (allocB (Below.refl w3.heap.size w3) (.cells #[.int .i64 2, .slice B1 n1 d1, .int .i64 S, .slice B3 n3 d3, .int .i64 L, .int .i64 K, .int .i64 T, .int .i64 E] 25))
    have hq3 := hr3.below (allocB (Below.refl w3.heap.size w3) (.cells #[.int .i64 2, .slice B1 n1 d1, .int .i64 S, .slice B3 n3 d3, .int .i64 L, .int .i64 K, .int .i64 T, .int .i64 E] 25))
    go_wp2_with fail
    replace hb := hb1; replace hr1 := hq1; replace hr3 := hq3; clear hb1 hq1 hq3 hx hbox x0 x1 x2 x3 x4 x5 x6 x7 g0 g1 g2 g3 g4 g5 g6 g7
    refine (implPV 2 B1 n1 d1 G S B3 n3 d3 Q L K T E _ HN1.out (by omega) hr1 HN3.out (by omega) hr3 HZ1.out HZ3.out).mono ?_
    rintro e w4 ⟨rfl, hbn⟩
    replace hb := seqB hb hbn
    replace hr1 := hr1.below hbn
    replace hr3 := hr3.below hbn
    clear hbn
    rw [pollB_two]
    clear hr1 hr3
    go_wp2_with fail
    refine (implPN _).mono ?_
    rintro e w5 ⟨rfl, hbn⟩
    replace hb := seqB hb hbn
    clear hbn
    go_wp2_with fail
    refine (implPV 0 none 0 0 [] 1 none 0 0 [] (-1) (-1) (-1) (-1) _ rfl (by omega) Rd.nil rfl (by omega) Rd.nil (fun _ => ⟨rfl, rfl⟩) (fun _ => ⟨rfl, rfl⟩)).mono ?_
    rintro e w6 ⟨rfl, hbn⟩
    replace hb := seqB hb hbn
    clear hbn
    rw [pollB_new]
    go_wp2_with fail
    refine (aliveC _).mono ?_
    rintro e w7 ⟨rfl, hbn⟩
    replace hb := seqB hb hbn
    clear hbn
    go_wp2_with fail
    go_ret
    exact ⟨ret_bool (by simp), hb⟩
  | true =>
    go_wp2_with fail
    refine (specPV M B1 n1 d1 G S B3 n3 d3 Q L K T E _ HN1.out (by omega) hr1 HN3.out (by omega) hr3).mono ?_
    rintro e w3 ⟨rfl, hbn⟩
    replace hb := seqB hb hbn
    replace hbox := be_box hbox hbn
    replace hr1 := hr1.below hbn
    replace hr3 := hr3.below hbn
    clear hbn
    rw [hv]
    clear g0 g1 g2 g3 g4 g5 g6 g7
    clear hv
    have g0 : w3.cell? ⟨w1.heap.size, 0, none⟩ = some (.int .i64 M) := box_cell hbox 0
    have g1 : w3.cell? ⟨w1.heap.size, 1, none⟩ = some (.slice B1 n1 d1) := box_cell hbox 1
    have g2 : w3.cell? ⟨w1.heap.size, 2, none⟩ = some (.int .i64 S) := box_cell hbox 2
    have g3 : w3.cell? ⟨w1.heap.size, 3, none⟩ = some (.slice B3 n3 d3) := box_cell hbox 3
    have g4 : w3.cell? ⟨w1.heap.size, 4, none⟩ = some (.int .i64 L) := box_cell hbox 4
    have g5 : w3.cell? ⟨w1.heap.size, 5, none⟩ = some (.int .i64 K) := box_cell hbox 5
    have g6 : w3.cell? ⟨w1.heap.size, 6, none⟩ = some (.int .i64 T) := box_cell hbox 6
    have g7 : w3.cell? ⟨w1.heap.size, 7, none⟩ = some (.int .i64 E) := box_cell hbox 7
    have hx := new_box w3 (.cells #[.int .i64 2, .slice B1 n1 d1, .int .i64 S, .slice B3 n3 d3, .int .i64 L, .int .i64 K, .int .i64 T, .int .i64 E] 25)
    have x0 : (w3.alloc (.cells #[.int .i64 2, .slice B1 n1 d1, .int .i64 S, .slice B3 n3 d3, .int .i64 L, .int .i64 K, .int .i64 T, .int .i64 E] 25)).cell? ⟨w3.heap.size, 0, none⟩ = some (.int .i64 2) := box_cell hx 0
    have x1 : (w3.alloc (.cells #[.int .i64 2, .slice B1 n1 d1, .int .i64 S, .slice B3 n3 d3, .int .i64 L, .int .i64 K, .int .i64 T, .int .i64 E] 25)).cell? ⟨w3.heap.size, 1, none⟩ = some (.slice B1 n1 d1) := box_cell hx 1
    have x2 : (w3.alloc (.cells #[.int .i64 2, .slice B1 n1 d1, .int .i64 S, .slice B3 n3 d3, .int .i64 L, .int .i64 K, .int .i64 T, .int .i64 E] 25)).cell? ⟨w3.heap.size, 2, none⟩ = some (.int .i64 S) := box_cell hx 2
    have x3 : (w3.alloc (.cells #[.int .i64 2, .slice B1 n1 d1, .int .i64 S, .slice B3 n3 d3, .int .i64 L, .int .i64 K, .int .i64 T, .int .i64 E] 25)).cell? ⟨w3.heap.size, 3, none⟩ = some (.slice B3 n3 d3) := box_cell hx 3
    have x4 : (w3.alloc (.cells #[.int .i64 2, .slice B1 n1 d1, .int .i64 S, .slice B3 n3 d3, .int .i64 L, .int .i64 K, .int .i64 T, .int .i64 E] 25)).cell? ⟨w3.heap.size, 4, none⟩ = some (.int .i64 L) := box_cell hx 4
    have x5 : (w3.alloc (.cells #[.int .i64 2, .slice B1 n1 d1, .int .i64 S, .slice B3 n3 d3, .int .i64 L, .int .i64 K, .int .i64 T, .int .i64 E] 25)).cell? ⟨w3.heap.size, 5, none⟩ = some (.int .i64 K) := box_cell hx 5
    have x6 : (w3.alloc (.cells #[.int .i64 2, .slice B1 n1 d1, .int .i64 S, .slice B3 n3 d3, .int .i64 L, .int .i64 K, .int .i64 T, .int .i64 E] 25)).cell? ⟨w3.heap.size, 6, none⟩ = some (.int .i64 T) := box_cell hx 6
    have x7 : (w3.alloc (.cells #[.int .i64 2, .slice B1 n1 d1, .int .i64 S, .slice B3 n3 d3, .int .i64 L, .int .i64 K, .int .i64 T, .int .i64 E] 25)).cell? ⟨w3.heap.size, 7, none⟩ = some (.int .i64 E) := box_cell hx 7
    have hb1 := allocB hb (.cells #[.int .i64 2, .slice B1 n1 d1, .int .i64 S, .slice B3 n3 d3, .int .i64 L, .int .i64 K, .int .i64 T, .int .i64 E] 25)
    have hq1 := hr1.below (allocB (Below.refl w3.heap.size w3) (.cells #[.int .i64 2, .slice B1 n1 d1, .int .i64 S, .slice B3 n3 d3, .int .i64 L, .int .i64 K, .int .i64 T, .int .i64 E] 25))
    have hq3 := hr3.below (allocB (Below.refl w3.heap.size w3) (.cells #[.int .i64 2, .slice B1 n1 d1, .int .i64 S, .slice B3 n3 d3, .int .i64 L, .int .i64 K, .int .i64 T, .int .i64 E] 25))
    go_wp2_with fail
    replace hb := hb1; replace hr1 := hq1; replace hr3 := hq3; clear hb1 hq1 hq3 hx hbox x0 x1 x2 x3 x4 x5 x6 x7 g0 g1 g2 g3 g4 g5 g6 g7
    refine (implPV 2 B1 n1 d1 G S B3 n3 d3 Q L K T E _ HN1.out (by omega) hr1 HN3.out (by omega) hr3 HZ1.out HZ3.out).mono ?_
    rintro e w4 ⟨rfl, hbn⟩
    replace hb := seqB hb hbn
    replace hr1 := hr1.below hbn
    replace hr3 := hr3.below hbn
    clear hbn
    rw [pollB_two]
    clear hr1 hr3
    go_wp2_with fail
    refine (implPN _).mono ?_
    rintro e w5 ⟨rfl, hbn⟩
    replace hb := seqB hb hbn
    clear hbn
    go_wp2_with fail
    refine (implPV 0 none 0 0 [] 1 none 0 0 [] (-1) (-1) (-1) (-1) _ rfl (by omega) Rd.nil rfl (by omega) Rd.nil (fun _ => ⟨rfl, rfl⟩) (fun _ => ⟨rfl, rfl⟩)).mono ?_
    rintro e w6 ⟨rfl, hbn⟩
    replace hb := seqB hb hbn
    clear hbn
    rw [pollB_new]
    go_wp2_with fail
    refine (aliveC _).mono ?_
    rintro e w7 ⟨rfl, hbn⟩
    replace hb := seqB hb hbn
    clear hbn
    go_wp2_with fail
    go_ret
    exact ⟨ret_bool (by simp), hb⟩
end Go.Proofs.YthekihggedgofaaDoor.lPoV
