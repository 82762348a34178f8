/- The contract of l20PollDeeds: some deeds are drawn. No statement is proved here. -/
import Derived.Test.YthekihggedgofaaDoorPolR
import Derived.Test.YthekihggedgofaaDoorAppS
import Derived.Test.YthekihggedgofaaDoorCmp
import Derived.Deep.RegionLaw
namespace Go.Proofs.YthekihggedgofaaDoor
open Go.RowKit
theorem info_deed : (Tryd.prog.info? 71).map (fun i => (i.zero, i.size, i.bytes)) = some (some (.agg #[.int .i64 0, .int .i64 0]), 2, 16) := by kernel_rfl
/-- deeds are drawn -/
def DrDs (R f : Nat) (w : World) (e : Ending) (w' : World) : Prop :=
  ∃ (ds : List (Int × Int)) (B : Option Addr) (c : Nat), e = .returned (.slice B ds.length c) ∧ ds.length ≤ 40 ∧ w'.ownsRow w.heap.size 71 2 (.slice B ds.length c) ds.length (flatD ds) ∧ Rdr w' R f ∧ w.grownBy w' (some R)
/-- while deeds are drawn -/
def DSt (w : World) (R f : Nat) (B : Option Addr) (c : Nat) (ds : List (Int × Int)) (W : World) : Prop :=
  Hid (W.ownsRow w.heap.size 71 2 (.slice B ds.length c) ds.length (flatD ds)) ∧ Hid (Rdr W R f) ∧ Hid (w.grownBy W (some R))
theorem DSt.mono {w W : World} {R f c : Nat} {B : Option Addr} {ds : List (Int × Int)} {f' : Nat} (h : DSt w R f B c ds W) (hf : f ≤ f') : DSt w R f' B c ds W := ⟨h.1, Lib.hid (h.2.1.out.mono hf), h.2.2⟩
theorem DSt.dr {w W : World} {R f c : Nat} {B : Option Addr} {ds : List (Int × Int)} {W' : World} {f' : Nat} (h : DSt w R f B c ds W) (hR : R < w.heap.size) (hr : Rdr W' R f') (hg : W.grownBy W' (some R)) : DSt w R f' B c ds W' := ⟨Lib.hid (row_dr h.1.out hg hR), Lib.hid hr, Lib.hid (h.2.2.out.trans hg)⟩
theorem DSt.al {w W : World} {R f c : Nat} {B : Option Addr} {ds : List (Int × Int)} (h : DSt w R f B c ds W) (o : Obj) : DSt w R f B c ds (W.alloc o) := ⟨Lib.hid (h.1.out.alloc o), Lib.hid (rdr_alloc h.2.1.out o), Lib.hid (gr_alloc h.2.2.out o)⟩
theorem DSt.drew {w W : World} {R f c : Nat} {B : Option Addr} {ds : List (Int × Int)} (h : DSt w R f B c ds W) : DSt w R f B c ds W.drew := ⟨h.1, h.2.1, Lib.hid ⟨h.2.2.out.os, h.2.2.out.tape, h.2.2.out.output, h.2.2.out.size, h.2.2.out.block⟩⟩
theorem DSt.row {w W : World} {R f c : Nat} {B : Option Addr} {ds : List (Int × Int)} {W' : World} {v' : Value} {x y : Int} (h : DSt w R f B c ds W) (hR : R < w.heap.size) (hown : W'.ownsRow w.heap.size 71 2 v' (ds.length + 1) (flatD ds ++ [.int .i64 x, .int .i64 y])) (hg : W.grownBy W' (Value.slice B ds.length c).ownBlock) :
    ∃ B' c', v' = .slice B' (ds ++ [(x, y)]).length c' ∧ DSt w R f B' c' (ds ++ [(x, y)]) W' := by
  obtain ⟨h1, h2, h3⟩ := h
  obtain ⟨B', c', rfl, hr⟩ := row_is (n' := (ds ++ [(x, y)]).length) (cs' := flatD (ds ++ [(x, y)])) hown (by simp) (by simp [flatD])
  refine ⟨B', c', rfl, Lib.hid hr, Lib.hid (h2.out.kept hg (fun k e => Nat.lt_of_lt_of_le hR (h1.out.lt k e).1)), Lib.hid (h3.out.andThen hg (fun k e => .inl (h1.out.lt k e).1))⟩
theorem lit10 {w : World} {g i : Nat} {a b c d e f g' h' k l : Int} {T : TypeId} (h : Hid (w.heap[g]? = some (.cells #[.int .i64 a, .int .i64 b, .int .i64 c, .int .i64 d, .int .i64 e, .int .i64 f, .int .i64 g', .int .i64 h', .int .i64 k, .int .i64 l] T (0, 0)))) (hi : i < 10) : ∃ v : Int, w.cell? ⟨g, i, none⟩ = some (.int .i64 v) := by
  rw [box_cell h]
  obtain rfl | rfl | rfl | rfl | rfl | rfl | rfl | rfl | rfl | rfl : i = 0 ∨ i = 1 ∨ i = 2 ∨ i = 3 ∨ i = 4 ∨ i = 5 ∨ i = 6 ∨ i = 7 ∨ i = 8 ∨ i = 9 := by omega
  all_goals exact ⟨_, rfl⟩
set_option maxRecDepth 100000 in
set_option maxHeartbeats 8000000 in
theorem deedsC (R f : Nat) (w : World) (hr : Rdr w R f) (hf : f ≤ 800000) :
    Calls Tryd.prog 26 #[.pointer (some ⟨R, 0, none⟩)] w (DrDs R (f + 90) w) := by
  have HL : Hid (R < w.heap.size) := hr.lt
  obtain ⟨i0, hi0, hz0, hz1, hz2⟩ := info_parts info_deed
  have HI := Lib.hid (And.intro hi0 (And.intro hz0 (And.intro hz1 hz2))); clear hi0 hz0 hz1 hz2
  have HD : DSt w R f (some ⟨w.heap.size, 0, none⟩) 0 [] (w.alloc (.cells #[] 71)) := ⟨Lib.hid (World.ownsRow_lit w #[] 0 (Nat.le_refl _) (Nat.zero_le _) rfl), Lib.hid (rdr_alloc hr _), Lib.hid (gr_alloc (gr_refl w R) _)⟩
  clear hr
  go_enter Tryd.func26, Tryd.ntmps26
  go_wp2_with fail
  refine (pickC R _ 40 _ HD.2.1.out (by omega) (by omega)).mono ?_
  rintro e w1 ⟨x, rfl, hx, hR, hg⟩
  have hx4 : (x : Int) ≤ 39 := by omega
  replace HD := HD.dr HL.out hR hg
  clear hR hg hx
  go_wp2_with fail
  go_loopg [3, 4] 39 (fun kx s3 s4 wr => ∃ (k : Nat) (ds : List (Int × Int)) (B : Option Addr) (c : Nat), s3 = .slice B ds.length c ∧ s4 = .int .i64 (k : Int) ∧ k ≤ kx ∧ ds.length + k ≤ 39 ∧ k ≤ 39 ∧ Hid (DSt w R (f + 80 - 2 * k) B c ds wr))
  case atStart => exact ⟨x, [], some ⟨w.heap.size, 0, none⟩, 0, rfl, rfl, by omega, by simp; omega, by omega, Lib.hid (HD.mono (by omega))⟩
  case round =>
    clear HD hx4
    obtain ⟨k, ds, B, c, rfl, rfl, hk, hdk, hk9, HD⟩ := hrel
    by_cases hlt : 0 < k
    · skip
      have hltz : (0 : Int) < (k : Int) := by omega
      have hwk : IntKind.i64.wrap ((k : Int) - 1) = (k : Int) - 1 := IntWalk.i64_in _ (by omega)
      go_upto_region 5 with fail
      have HDd := HD.out.drew
      have HDe : DSt w R (f + 80 - 2 * k) B c ds (wr.alloc (.cells #[.int .i64 0, .int .i64 0, .int .i64 1, .int .i64 1, .int .i64 2, .int .i64 2, .int .i64 3, .int .i64 3, .int .i64 4, .int .i64 5] 3)).drew := (HD.out.al (.cells #[.int .i64 0, .int .i64 0, .int .i64 1, .int .i64 1, .int .i64 2, .int .i64 2, .int .i64 3, .int .i64 3, .int .i64 4, .int .i64 5] 3)).drew
      have HLe : Hid ((wr.alloc (.cells #[.int .i64 0, .int .i64 0, .int .i64 1, .int .i64 1, .int .i64 2, .int .i64 2, .int .i64 3, .int .i64 3, .int .i64 4, .int .i64 5] 3)).drew.heap[wr.heap.size]? = some (.cells #[.int .i64 0, .int .i64 0, .int .i64 1, .int .i64 1, .int .i64 2, .int .i64 2, .int .i64 3, .int .i64 3, .int .i64 4, .int .i64 5] 3 (0, 0))) := new_box wr (.cells #[.int .i64 0, .int .i64 0, .int .i64 1, .int .i64 1, .int .i64 2, .int .i64 2, .int .i64 3, .int .i64 3, .int .i64 4, .int .i64 5] 3)
      have hRl := HDd.2.1.out.lt
      have hwl : R < wr.heap.size := hRl
      clear HD
      refine wp_region_held_drew (S := fun _ => True) (by kernel_rfl) True.intro (fun hHeld => ?_)
      refine wpAnyH_take (i := 0) (v := ?v1) rfl (by kernel_rfl) (by kernel_rfl) (by kernel_rfl) (fun _ _ _ h => h) (Or.inl ⟨by rfl, ?h1⟩) (by assumption) ?r1
      case h1 => (intro w0 hSw; (try dsimp only at hSw); go_simp; try with_reducible rfl)
      (try simp only [Act.put]); (try simp only [List.setIfInBounds_toArray]); (try simp only [List.set_cons_succ]); (try simp only [List.set_cons_zero])
      refine wpAnyH_take (i := 2) (v := ?v2) rfl (by kernel_rfl) (by kernel_rfl) (by kernel_rfl) (fun _ _ _ h => h) (Or.inl ⟨by rfl, ?h2⟩) (by assumption) ?r2
      case h2 => (intro w0 hSw; (try dsimp only at hSw); go_simp; try with_reducible rfl)
      (try simp only [Act.put]); (try simp only [List.setIfInBounds_toArray]); (try simp only [List.set_cons_succ]); (try simp only [List.set_cons_zero])
      refine wpAnyH_take (i := 6) (v := ?v3) rfl (by kernel_rfl) (by kernel_rfl) (by kernel_rfl) (fun _ _ _ h => h) (Or.inl ⟨by rfl, ?h3⟩) (by assumption) ?r3
      case h3 => (intro w0 hSw; (try dsimp only at hSw); go_simp; try with_reducible rfl)
      (try simp only [Act.put]); (try simp only [List.setIfInBounds_toArray]); (try simp only [List.set_cons_succ]); (try simp only [List.set_cons_zero])
      refine wpAnyH_ready (rs := [1, 3]) (by kernel_rfl) (by simp) ?_
      refine AllReadyH.cons rfl (fun K hK => ?_) (AllReadyH.cons rfl (fun K hK => ?_) AllReadyH.nil)
      · skip
        go_simp
        refine hK.out _ _ True.intro (fun hHeld2 => ?_)
        clear hK K hHeld; have hHeld := hHeld2; clear hHeld2
        (try simp only [Act.put]); (try simp only [List.setIfInBounds_toArray]); (try simp only [List.set_cons_succ]); (try simp only [List.set_cons_zero])
        refine wpAnyH_ready (rs := [3]) (by kernel_rfl) (by simp) ?_
        refine AllReadyH.cons rfl (fun K hK => ?_) AllReadyH.nil
        go_simp
        go_at_call 28
        refine (pickC R _ 10 _ (by exact HDe.2.1.out) (by omega) (by omega)).mono ?_
        rintro e WP ⟨y, rfl, hy, hR, hg⟩
        have HLT := dr_box HLe hg (by omega)
        have HD := HDe.dr HL.out hR hg
        clear hR hg HDe HDd HLe
        obtain ⟨v, hv⟩ := lit10 HLT (show y < 10 by omega)
        refine hK.out _ _ True.intro (fun hHeld2 => ?_)
        clear hK K hHeld; have hHeld := hHeld2; clear hHeld2
        (try simp only [Act.put]); (try simp only [List.setIfInBounds_toArray]); (try simp only [List.set_cons_succ]); (try simp only [List.set_cons_zero])
        have hy9 : (y : Int) < 10 := by omega
        have hy0 : (0 : Int) ≤ (y : Int) := by omega
        refine wpAnyH_take (i := 4) (v := ?v4) rfl (by kernel_rfl) (by kernel_rfl) (by kernel_rfl) (fun _ _ _ h => h) (Or.inl ⟨by rfl, ?h4⟩) (by assumption) ?r4
        case h4 => (intro w0 hSw; (try dsimp only at hSw); go_simp; try with_reducible rfl)
        (try simp only [Act.put]); (try simp only [List.setIfInBounds_toArray]); (try simp only [List.set_cons_succ]); (try simp only [List.set_cons_zero])
        refine wpAnyH_ready (rs := [5, 7]) (by kernel_rfl) (by simp) ?_
        refine AllReadyH.cons rfl (fun K hK => ?_) (AllReadyH.cons rfl (fun K hK => ?_) AllReadyH.nil)
        · skip
          go_simp
          refine hK.out _ _ True.intro (fun hHeld2 => ?_)
          clear hK K hHeld; have hHeld := hHeld2; clear hHeld2
          (try simp only [Act.put]); (try simp only [List.setIfInBounds_toArray]); (try simp only [List.set_cons_succ]); (try simp only [List.set_cons_zero])
          refine wpAnyH_ready (rs := [7]) (by kernel_rfl) (by simp) ?_
          refine AllReadyH.cons rfl (fun K hK => ?_) AllReadyH.nil
          go_simp
          go_at_call 28
          refine (pickC R _ 90 _ (by exact HD.2.1.out) (by omega) (by omega)).mono ?_
          rintro e WQ ⟨z, rfl, hz, hR, hg⟩
          replace HD := HD.dr HL.out hR hg
          clear hR hg
          refine hK.out _ _ True.intro (fun hHeld2 => ?_)
          clear hK K hHeld; have hHeld := hHeld2; clear hHeld2
          (try simp only [Act.put]); (try simp only [List.setIfInBounds_toArray]); (try simp only [List.set_cons_succ]); (try simp only [List.set_cons_zero])
          refine wpAnyH_take (i := 8) (v := ?v5) rfl (by kernel_rfl) (by kernel_rfl) (by kernel_rfl) (fun _ _ _ h => h) (Or.inl ⟨by rfl, ?h5⟩) (by assumption) ?r5
          case h5 => (intro w0 hSw; (try dsimp only at hSw); go_simp; try with_reducible rfl)
          (try simp only [Act.put]); (try simp only [List.setIfInBounds_toArray]); (try simp only [List.set_cons_succ]); (try simp only [List.set_cons_zero])
          refine wpAnyH_ready (rs := [9]) (by kernel_rfl) (by simp) ?_
          refine AllReadyH.cons rfl (fun K hK => ?_) AllReadyH.nil
          go_simp
          have HE := HD.al (.cells #[.int .i64 v, .int .i64 (z : Int)] 71)
          have RDL := Lib.hid (rd_new WQ #[.int .i64 v, .int .i64 (z : Int)] 71)
          have hbz := HE.2.2.out.size
          refine hK.out _ _ True.intro (fun hHeld2 => ?_)
          clear hK K hHeld; have hHeld := hHeld2; clear hHeld2
          (try simp only [Act.put]); (try simp only [List.setIfInBounds_toArray]); (try simp only [List.set_cons_succ]); (try simp only [List.set_cons_zero])
          refine wpAnyH_ready (rs := [10]) (by kernel_rfl) (by simp) ?_
          refine AllReadyH.cons rfl (fun K hK => ?_) AllReadyH.nil
          refine step_appN _ rfl _ _ _ rfl w.heap.size 71 i0 _ 2 16 Tryd.underlying50 HI.out rfl (by omega) (.slice B ds.length c) ds.length (flatD ds) rfl HE.1.out _ 1 1 [.int .i64 v, .int .i64 (z : Int)] rfl rfl RDL.out (fun e => by cases e) (by simp [Value.oneCell']) (by omega) (by omega) hbz ?_
          intro v' w9 hown9 hg9
          obtain ⟨B2, c2, rfl, HD9⟩ := HE.row HL.out hown9 hg9
          clear hown9 hg9 RDL HE hbz HD
          refine hK.out _ _ True.intro (fun hHeld2 => ?_)
          clear hK K hHeld; have hHeld := hHeld2; clear hHeld2
          (try simp only [Act.put]); (try simp only [List.setIfInBounds_toArray]); (try simp only [List.set_cons_succ]); (try simp only [List.set_cons_zero])
          refine wpAnyH_take (i := 11) (v := ?v6) rfl (by kernel_rfl) (by kernel_rfl) (by kernel_rfl) (fun _ _ _ h => h) (Or.inl ⟨by rfl, ?h6⟩) (by assumption) ?r6
          case h6 => (intro w0 hSw; (try dsimp only at hSw); go_simp; try with_reducible rfl)
          (try simp only [Act.put]); (try simp only [List.setIfInBounds_toArray]); (try simp only [List.set_cons_succ]); (try simp only [List.set_cons_zero])
          refine wpAnyH_done (by kernel_rfl) ?_ _
          go_wp2_with fail
          go_roundg (k - 1)
          case measure => omega
          case rel => exact ⟨k - 1, ds ++ [(v, (z : Int))], B2, c2, by simp, by rw [Int.ofNat_sub (by omega)]; rfl, by omega, by simp; omega, by omega, Lib.hid (HD9.mono (by omega))⟩
        · skip
          go_simp
          go_at_call 28
          refine (pickC R _ 90 _ (by exact HD.2.1.out) (by omega) (by omega)).mono ?_
          rintro e WQ ⟨z, rfl, hz, hR, hg⟩
          have HLT := dr_box HLT hg (by omega)
          replace HD := HD.dr HL.out hR hg
          clear hR hg hv
          obtain ⟨v, hv⟩ := lit10 HLT (show y < 10 by omega)
          refine hK.out _ _ True.intro (fun hHeld2 => ?_)
          clear hK K hHeld; have hHeld := hHeld2; clear hHeld2
          (try simp only [Act.put]); (try simp only [List.setIfInBounds_toArray]); (try simp only [List.set_cons_succ]); (try simp only [List.set_cons_zero])
          refine wpAnyH_ready (rs := [5]) (by kernel_rfl) (by simp) ?_
          refine AllReadyH.cons rfl (fun K hK => ?_) AllReadyH.nil
          go_simp
          refine hK.out _ _ True.intro (fun hHeld2 => ?_)
          clear hK K hHeld; have hHeld := hHeld2; clear hHeld2
          (try simp only [Act.put]); (try simp only [List.setIfInBounds_toArray]); (try simp only [List.set_cons_succ]); (try simp only [List.set_cons_zero])
          refine wpAnyH_take (i := 8) (v := ?v7) rfl (by kernel_rfl) (by kernel_rfl) (by kernel_rfl) (fun _ _ _ h => h) (Or.inl ⟨by rfl, ?h7⟩) (by assumption) ?r7
          case h7 => (intro w0 hSw; (try dsimp only at hSw); go_simp; try with_reducible rfl)
          (try simp only [Act.put]); (try simp only [List.setIfInBounds_toArray]); (try simp only [List.set_cons_succ]); (try simp only [List.set_cons_zero])
          refine wpAnyH_ready (rs := [9]) (by kernel_rfl) (by simp) ?_
          refine AllReadyH.cons rfl (fun K hK => ?_) AllReadyH.nil
          go_simp
          have HE := HD.al (.cells #[.int .i64 v, .int .i64 (z : Int)] 71)
          have RDL := Lib.hid (rd_new WQ #[.int .i64 v, .int .i64 (z : Int)] 71)
          have hbz := HE.2.2.out.size
          refine hK.out _ _ True.intro (fun hHeld2 => ?_)
          clear hK K hHeld; have hHeld := hHeld2; clear hHeld2
          (try simp only [Act.put]); (try simp only [List.setIfInBounds_toArray]); (try simp only [List.set_cons_succ]); (try simp only [List.set_cons_zero])
          refine wpAnyH_ready (rs := [10]) (by kernel_rfl) (by simp) ?_
          refine AllReadyH.cons rfl (fun K hK => ?_) AllReadyH.nil
          refine step_appN _ rfl _ _ _ rfl w.heap.size 71 i0 _ 2 16 Tryd.underlying50 HI.out rfl (by omega) (.slice B ds.length c) ds.length (flatD ds) rfl HE.1.out _ 1 1 [.int .i64 v, .int .i64 (z : Int)] rfl rfl RDL.out (fun e => by cases e) (by simp [Value.oneCell']) (by omega) (by omega) hbz ?_
          intro v' w9 hown9 hg9
          obtain ⟨B2, c2, rfl, HD9⟩ := HE.row HL.out hown9 hg9
          clear hown9 hg9 RDL HE hbz HD
          refine hK.out _ _ True.intro (fun hHeld2 => ?_)
          clear hK K hHeld; have hHeld := hHeld2; clear hHeld2
          (try simp only [Act.put]); (try simp only [List.setIfInBounds_toArray]); (try simp only [List.set_cons_succ]); (try simp only [List.set_cons_zero])
          refine wpAnyH_take (i := 11) (v := ?v8) rfl (by kernel_rfl) (by kernel_rfl) (by kernel_rfl) (fun _ _ _ h => h) (Or.inl ⟨by rfl, ?h8⟩) (by assumption) ?r8
          case h8 => (intro w0 hSw; (try dsimp only at hSw); go_simp; try with_reducible rfl)
          (try simp only [Act.put]); (try simp only [List.setIfInBounds_toArray]); (try simp only [List.set_cons_succ]); (try simp only [List.set_cons_zero])
          refine wpAnyH_done (by kernel_rfl) ?_ _
          go_wp2_with fail
          go_roundg (k - 1)
          case measure => omega
          case rel => exact ⟨k - 1, ds ++ [(v, (z : Int))], B2, c2, by simp, by rw [Int.ofNat_sub (by omega)]; rfl, by omega, by simp; omega, by omega, Lib.hid (HD9.mono (by omega))⟩
      · skip
        go_simp
        go_at_call 28
        refine (pickC R _ 10 _ (by exact HDd.2.1.out) (by omega) (by omega)).mono ?_
        rintro e WP0 ⟨y, rfl, hy, hR, hg⟩
        have HD := HDd.dr HL.out hR hg
        have hWl := HD.2.1.out.lt
        clear hR hg HDe HDd HLe
        refine hK.out _ _ True.intro (fun hHeld2 => ?_)
        clear hK K hHeld; have hHeld := hHeld2; clear hHeld2
        (try simp only [Act.put]); (try simp only [List.setIfInBounds_toArray]); (try simp only [List.set_cons_succ]); (try simp only [List.set_cons_zero])
        refine wpAnyH_ready (rs := [1, 7]) (by kernel_rfl) (by simp) ?_
        refine AllReadyH.cons rfl (fun K hK => ?_) (AllReadyH.cons rfl (fun K hK => ?_) AllReadyH.nil)
        · skip
          go_simp
          have HLT := new_box WP0 (.cells #[.int .i64 0, .int .i64 0, .int .i64 1, .int .i64 1, .int .i64 2, .int .i64 2, .int .i64 3, .int .i64 3, .int .i64 4, .int .i64 5] 3)
          replace HD := HD.al (.cells #[.int .i64 0, .int .i64 0, .int .i64 1, .int .i64 1, .int .i64 2, .int .i64 2, .int .i64 3, .int .i64 3, .int .i64 4, .int .i64 5] 3)
          obtain ⟨v, hv⟩ := lit10 HLT (show y < 10 by omega)
          refine hK.out _ _ True.intro (fun hHeld2 => ?_)
          clear hK K hHeld; have hHeld := hHeld2; clear hHeld2
          (try simp only [Act.put]); (try simp only [List.setIfInBounds_toArray]); (try simp only [List.set_cons_succ]); (try simp only [List.set_cons_zero])
          have hy9 : (y : Int) < 10 := by omega
          have hy0 : (0 : Int) ≤ (y : Int) := by omega
          refine wpAnyH_take (i := 4) (v := ?v9) rfl (by kernel_rfl) (by kernel_rfl) (by kernel_rfl) (fun _ _ _ h => h) (Or.inl ⟨by rfl, ?h9⟩) (by assumption) ?r9
          case h9 => (intro w0 hSw; (try dsimp only at hSw); go_simp; try with_reducible rfl)
          (try simp only [Act.put]); (try simp only [List.setIfInBounds_toArray]); (try simp only [List.set_cons_succ]); (try simp only [List.set_cons_zero])
          refine wpAnyH_ready (rs := [5, 7]) (by kernel_rfl) (by simp) ?_
          refine AllReadyH.cons rfl (fun K hK => ?_) (AllReadyH.cons rfl (fun K hK => ?_) AllReadyH.nil)
          · skip
            go_simp
            refine hK.out _ _ True.intro (fun hHeld2 => ?_)
            clear hK K hHeld; have hHeld := hHeld2; clear hHeld2
            (try simp only [Act.put]); (try simp only [List.setIfInBounds_toArray]); (try simp only [List.set_cons_succ]); (try simp only [List.set_cons_zero])
            refine wpAnyH_ready (rs := [7]) (by kernel_rfl) (by simp) ?_
            refine AllReadyH.cons rfl (fun K hK => ?_) AllReadyH.nil
            go_simp
            go_at_call 28
            refine (pickC R _ 90 _ (by exact HD.2.1.out) (by omega) (by omega)).mono ?_
            rintro e WQ ⟨z, rfl, hz, hR, hg⟩
            replace HD := HD.dr HL.out hR hg
            clear hR hg
            refine hK.out _ _ True.intro (fun hHeld2 => ?_)
            clear hK K hHeld; have hHeld := hHeld2; clear hHeld2
            (try simp only [Act.put]); (try simp only [List.setIfInBounds_toArray]); (try simp only [List.set_cons_succ]); (try simp only [List.set_cons_zero])
            refine wpAnyH_take (i := 8) (v := ?v10) rfl (by kernel_rfl) (by kernel_rfl) (by kernel_rfl) (fun _ _ _ h => h) (Or.inl ⟨by rfl, ?h10⟩) (by assumption) ?r10
            case h10 => (intro w0 hSw; (try dsimp only at hSw); go_simp; try with_reducible rfl)
            (try simp only [Act.put]); (try simp only [List.setIfInBounds_toArray]); (try simp only [List.set_cons_succ]); (try simp only [List.set_cons_zero])
            refine wpAnyH_ready (rs := [9]) (by kernel_rfl) (by simp) ?_
            refine AllReadyH.cons rfl (fun K hK => ?_) AllReadyH.nil
            go_simp
            have HE := HD.al (.cells #[.int .i64 v, .int .i64 (z : Int)] 71)
            have RDL := Lib.hid (rd_new WQ #[.int .i64 v, .int .i64 (z : Int)] 71)
            have hbz := HE.2.2.out.size
            refine hK.out _ _ True.intro (fun hHeld2 => ?_)
            clear hK K hHeld; have hHeld := hHeld2; clear hHeld2
            (try simp only [Act.put]); (try simp only [List.setIfInBounds_toArray]); (try simp only [List.set_cons_succ]); (try simp only [List.set_cons_zero])
            refine wpAnyH_ready (rs := [10]) (by kernel_rfl) (by simp) ?_
            refine AllReadyH.cons rfl (fun K hK => ?_) AllReadyH.nil
            refine step_appN _ rfl _ _ _ rfl w.heap.size 71 i0 _ 2 16 Tryd.underlying50 HI.out rfl (by omega) (.slice B ds.length c) ds.length (flatD ds) rfl HE.1.out _ 1 1 [.int .i64 v, .int .i64 (z : Int)] rfl rfl RDL.out (fun e => by cases e) (by simp [Value.oneCell']) (by omega) (by omega) hbz ?_
            intro v' w9 hown9 hg9
            obtain ⟨B2, c2, rfl, HD9⟩ := HE.row HL.out hown9 hg9
            clear hown9 hg9 RDL HE hbz HD
            refine hK.out _ _ True.intro (fun hHeld2 => ?_)
            clear hK K hHeld; have hHeld := hHeld2; clear hHeld2
            (try simp only [Act.put]); (try simp only [List.setIfInBounds_toArray]); (try simp only [List.set_cons_succ]); (try simp only [List.set_cons_zero])
            refine wpAnyH_take (i := 11) (v := ?v11) rfl (by kernel_rfl) (by kernel_rfl) (by kernel_rfl) (fun _ _ _ h => h) (Or.inl ⟨by rfl, ?h11⟩) (by assumption) ?r11
            case h11 => (intro w0 hSw; (try dsimp only at hSw); go_simp; try with_reducible rfl)
            (try simp only [Act.put]); (try simp only [List.setIfInBounds_toArray]); (try simp only [List.set_cons_succ]); (try simp only [List.set_cons_zero])
            refine wpAnyH_done (by kernel_rfl) ?_ _
            go_wp2_with fail
            go_roundg (k - 1)
            case measure => omega
            case rel => exact ⟨k - 1, ds ++ [(v, (z : Int))], B2, c2, by simp, by rw [Int.ofNat_sub (by omega)]; rfl, by omega, by simp; omega, by omega, Lib.hid (HD9.mono (by omega))⟩
          · skip
            go_simp
            go_at_call 28
            refine (pickC R _ 90 _ (by exact HD.2.1.out) (by omega) (by omega)).mono ?_
            rintro e WQ ⟨z, rfl, hz, hR, hg⟩
            have HLT := dr_box HLT hg (by omega)
            replace HD := HD.dr HL.out hR hg
            clear hR hg hv
            obtain ⟨v, hv⟩ := lit10 HLT (show y < 10 by omega)
            refine hK.out _ _ True.intro (fun hHeld2 => ?_)
            clear hK K hHeld; have hHeld := hHeld2; clear hHeld2
            (try simp only [Act.put]); (try simp only [List.setIfInBounds_toArray]); (try simp only [List.set_cons_succ]); (try simp only [List.set_cons_zero])
            refine wpAnyH_ready (rs := [5]) (by kernel_rfl) (by simp) ?_
            refine AllReadyH.cons rfl (fun K hK => ?_) AllReadyH.nil
            go_simp
            refine hK.out _ _ True.intro (fun hHeld2 => ?_)
            clear hK K hHeld; have hHeld := hHeld2; clear hHeld2
            (try simp only [Act.put]); (try simp only [List.setIfInBounds_toArray]); (try simp only [List.set_cons_succ]); (try simp only [List.set_cons_zero])
            refine wpAnyH_take (i := 8) (v := ?v12) rfl (by kernel_rfl) (by kernel_rfl) (by kernel_rfl) (fun _ _ _ h => h) (Or.inl ⟨by rfl, ?h12⟩) (by assumption) ?r12
            case h12 => (intro w0 hSw; (try dsimp only at hSw); go_simp; try with_reducible rfl)
            (try simp only [Act.put]); (try simp only [List.setIfInBounds_toArray]); (try simp only [List.set_cons_succ]); (try simp only [List.set_cons_zero])
            refine wpAnyH_ready (rs := [9]) (by kernel_rfl) (by simp) ?_
            refine AllReadyH.cons rfl (fun K hK => ?_) AllReadyH.nil
            go_simp
            have HE := HD.al (.cells #[.int .i64 v, .int .i64 (z : Int)] 71)
            have RDL := Lib.hid (rd_new WQ #[.int .i64 v, .int .i64 (z : Int)] 71)
            have hbz := HE.2.2.out.size
            refine hK.out _ _ True.intro (fun hHeld2 => ?_)
            clear hK K hHeld; have hHeld := hHeld2; clear hHeld2
            (try simp only [Act.put]); (try simp only [List.setIfInBounds_toArray]); (try simp only [List.set_cons_succ]); (try simp only [List.set_cons_zero])
            refine wpAnyH_ready (rs := [10]) (by kernel_rfl) (by simp) ?_
            refine AllReadyH.cons rfl (fun K hK => ?_) AllReadyH.nil
            refine step_appN _ rfl _ _ _ rfl w.heap.size 71 i0 _ 2 16 Tryd.underlying50 HI.out rfl (by omega) (.slice B ds.length c) ds.length (flatD ds) rfl HE.1.out _ 1 1 [.int .i64 v, .int .i64 (z : Int)] rfl rfl RDL.out (fun e => by cases e) (by simp [Value.oneCell']) (by omega) (by omega) hbz ?_
            intro v' w9 hown9 hg9
            obtain ⟨B2, c2, rfl, HD9⟩ := HE.row HL.out hown9 hg9
            clear hown9 hg9 RDL HE hbz HD
            refine hK.out _ _ True.intro (fun hHeld2 => ?_)
            clear hK K hHeld; have hHeld := hHeld2; clear hHeld2
            (try simp only [Act.put]); (try simp only [List.setIfInBounds_toArray]); (try simp only [List.set_cons_succ]); (try simp only [List.set_cons_zero])
            refine wpAnyH_take (i := 11) (v := ?v13) rfl (by kernel_rfl) (by kernel_rfl) (by kernel_rfl) (fun _ _ _ h => h) (Or.inl ⟨by rfl, ?h13⟩) (by assumption) ?r13
            case h13 => (intro w0 hSw; (try dsimp only at hSw); go_simp; try with_reducible rfl)
            (try simp only [Act.put]); (try simp only [List.setIfInBounds_toArray]); (try simp only [List.set_cons_succ]); (try simp only [List.set_cons_zero])
            refine wpAnyH_done (by kernel_rfl) ?_ _
            go_wp2_with fail
            go_roundg (k - 1)
            case measure => omega
            case rel => exact ⟨k - 1, ds ++ [(v, (z : Int))], B2, c2, by simp, by rw [Int.ofNat_sub (by omega)]; rfl, by omega, by simp; omega, by omega, Lib.hid (HD9.mono (by omega))⟩
        · skip
          go_simp
          go_at_call 28
          refine (pickC R _ 90 _ (by exact HD.2.1.out) (by omega) (by omega)).mono ?_
          rintro e WQ0 ⟨z, rfl, hz, hR, hg⟩
          replace HD := HD.dr HL.out hR hg
          clear hR hg
          refine hK.out _ _ True.intro (fun hHeld2 => ?_)
          clear hK K hHeld; have hHeld := hHeld2; clear hHeld2
          (try simp only [Act.put]); (try simp only [List.setIfInBounds_toArray]); (try simp only [List.set_cons_succ]); (try simp only [List.set_cons_zero])
          refine wpAnyH_ready (rs := [1]) (by kernel_rfl) (by simp) ?_
          refine AllReadyH.cons rfl (fun K hK => ?_) AllReadyH.nil
          go_simp
          have HLT := new_box WQ0 (.cells #[.int .i64 0, .int .i64 0, .int .i64 1, .int .i64 1, .int .i64 2, .int .i64 2, .int .i64 3, .int .i64 3, .int .i64 4, .int .i64 5] 3)
          replace HD := HD.al (.cells #[.int .i64 0, .int .i64 0, .int .i64 1, .int .i64 1, .int .i64 2, .int .i64 2, .int .i64 3, .int .i64 3, .int .i64 4, .int .i64 5] 3)
          obtain ⟨v, hv⟩ := lit10 HLT (show y < 10 by omega)
          have hy9 : (y : Int) < 10 := by omega
          have hy0 : (0 : Int) ≤ (y : Int) := by omega
          refine hK.out _ _ True.intro (fun hHeld2 => ?_)
          clear hK K hHeld; have hHeld := hHeld2; clear hHeld2
          (try simp only [Act.put]); (try simp only [List.setIfInBounds_toArray]); (try simp only [List.set_cons_succ]); (try simp only [List.set_cons_zero])
          refine wpAnyH_take (i := 4) (v := ?v14) rfl (by kernel_rfl) (by kernel_rfl) (by kernel_rfl) (fun _ _ _ h => h) (Or.inl ⟨by rfl, ?h14⟩) (by assumption) ?r14
          case h14 => (intro w0 hSw; (try dsimp only at hSw); go_simp; try with_reducible rfl)
          (try simp only [Act.put]); (try simp only [List.setIfInBounds_toArray]); (try simp only [List.set_cons_succ]); (try simp only [List.set_cons_zero])
          refine wpAnyH_ready (rs := [5]) (by kernel_rfl) (by simp) ?_
          refine AllReadyH.cons rfl (fun K hK => ?_) AllReadyH.nil
          go_simp
          refine hK.out _ _ True.intro (fun hHeld2 => ?_)
          clear hK K hHeld; have hHeld := hHeld2; clear hHeld2
          (try simp only [Act.put]); (try simp only [List.setIfInBounds_toArray]); (try simp only [List.set_cons_succ]); (try simp only [List.set_cons_zero])
          refine wpAnyH_take (i := 8) (v := ?v15) rfl (by kernel_rfl) (by kernel_rfl) (by kernel_rfl) (fun _ _ _ h => h) (Or.inl ⟨by rfl, ?h15⟩) (by assumption) ?r15
          case h15 => (intro w0 hSw; (try dsimp only at hSw); go_simp; try with_reducible rfl)
          (try simp only [Act.put]); (try simp only [List.setIfInBounds_toArray]); (try simp only [List.set_cons_succ]); (try simp only [List.set_cons_zero])
          refine wpAnyH_ready (rs := [9]) (by kernel_rfl) (by simp) ?_
          refine AllReadyH.cons rfl (fun K hK => ?_) AllReadyH.nil
          go_simp
          have HE := HD.al (.cells #[.int .i64 v, .int .i64 (z : Int)] 71)
          have RDL : Hid (Rd ((WQ0.alloc (.cells #[.int .i64 0, .int .i64 0, .int .i64 1, .int .i64 1, .int .i64 2, .int .i64 2, .int .i64 3, .int .i64 3, .int .i64 4, .int .i64 5] 3)).alloc (.cells #[.int .i64 v, .int .i64 (z : Int)] 71)) (some ⟨WQ0.heap.size + 1, 0, none⟩) [.int .i64 v, .int .i64 (z : Int)]) := Lib.hid (by simpa using rd_new (WQ0.alloc (.cells #[.int .i64 0, .int .i64 0, .int .i64 1, .int .i64 1, .int .i64 2, .int .i64 2, .int .i64 3, .int .i64 3, .int .i64 4, .int .i64 5] 3)) #[.int .i64 v, .int .i64 (z : Int)] 71)
          have hbz := HE.2.2.out.size
          refine hK.out _ _ True.intro (fun hHeld2 => ?_)
          clear hK K hHeld; have hHeld := hHeld2; clear hHeld2
          (try simp only [Act.put]); (try simp only [List.setIfInBounds_toArray]); (try simp only [List.set_cons_succ]); (try simp only [List.set_cons_zero])
          refine wpAnyH_ready (rs := [10]) (by kernel_rfl) (by simp) ?_
          refine AllReadyH.cons rfl (fun K hK => ?_) AllReadyH.nil
          refine step_appN _ rfl _ _ _ rfl w.heap.size 71 i0 _ 2 16 Tryd.underlying50 HI.out rfl (by omega) (.slice B ds.length c) ds.length (flatD ds) rfl HE.1.out _ 1 1 [.int .i64 v, .int .i64 (z : Int)] rfl rfl RDL.out (fun e => by cases e) (by simp [Value.oneCell']) (by omega) (by omega) hbz ?_
          intro v' w9 hown9 hg9
          obtain ⟨B2, c2, rfl, HD9⟩ := HE.row HL.out hown9 hg9
          clear hown9 hg9 RDL HE hbz HD
          refine hK.out _ _ True.intro (fun hHeld2 => ?_)
          clear hK K hHeld; have hHeld := hHeld2; clear hHeld2
          (try simp only [Act.put]); (try simp only [List.setIfInBounds_toArray]); (try simp only [List.set_cons_succ]); (try simp only [List.set_cons_zero])
          refine wpAnyH_take (i := 11) (v := ?v16) rfl (by kernel_rfl) (by kernel_rfl) (by kernel_rfl) (fun _ _ _ h => h) (Or.inl ⟨by rfl, ?h16⟩) (by assumption) ?r16
          case h16 => (intro w0 hSw; (try dsimp only at hSw); go_simp; try with_reducible rfl)
          (try simp only [Act.put]); (try simp only [List.setIfInBounds_toArray]); (try simp only [List.set_cons_succ]); (try simp only [List.set_cons_zero])
          refine wpAnyH_done (by kernel_rfl) ?_ _
          go_wp2_with fail
          go_roundg (k - 1)
          case measure => omega
          case rel => exact ⟨k - 1, ds ++ [(v, (z : Int))], B2, c2, by simp, by rw [Int.ofNat_sub (by omega)]; rfl, by omega, by simp; omega, by omega, Lib.hid (HD9.mono (by omega))⟩
    · skip
      obtain rfl : k = 0 := by omega
      go_wp2_with fail
      go_ret
      exact ⟨ds, B, c, rfl, by omega, HD.out.1.out, HD.out.2.1.out.mono (by omega), HD.out.2.2.out⟩
end Go.Proofs.YthekihggedgofaaDoor
