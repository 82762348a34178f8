/- Contracts of the functions that draw orders. No statement is proved here. -/
import Derived.Test.YtlhfkidgmdojjaaDoorDrG
import Derived.Test.YtlhfkidgmdojjaaDoorValOrder
import Derived.Test.YtlhfkidgmdojjaaDoorSnOrder
namespace Go.Proofs.YtlhfkidgmdojjaaDoor
open Go.RowKit

theorem flatOrder_one (l : List Order) : ∀ u ∈ flatOrder l, u.oneCell' = true := by
  intro u hu
  simp only [flatOrder, List.mem_flatMap] at hu
  obtain ⟨r, _, hr⟩ := hu
  simp only [Order.cells, List.mem_cons, List.not_mem_nil, or_false] at hr
  rcases hr with rfl | rfl <;> rfl
theorem flatOrder_drop {w : World} {b o : Nat} {l : List Order} (h : Rd w (some ⟨b, o, none⟩) (flatOrder l)) (k : Nat) : Rd w (some ⟨b, o + k * 2, none⟩) (flatOrder (l.drop k)) := by
  by_cases hk : k ≤ l.length
  · have e : flatOrder (l.drop k) = (flatOrder l).drop (k * 2) := by
      have h1 : flatOrder l = flatOrder (l.take k) ++ flatOrder (l.drop k) := by
        unfold flatOrder; rw [← List.flatMap_append, List.take_append_drop]
      have h2 : (flatOrder (l.take k)).length = k * 2 := by rw [flatOrder_length]; simp; omega
      rw [h1, ← h2, List.drop_left]
    rw [e]; exact rdPart h
  · rw [List.drop_eq_nil_of_le (by omega)]; exact Rd.nil
theorem valOrder_drop {xs : List Order} (h : valOrder xs = true) (j : Nat) : valOrder (xs.drop j) = true := by
  simp only [valOrder, Bool.and_eq_true, List.all_eq_true, decide_eq_true_eq] at h ⊢
  exact ⟨fun x hx => h.1 x (List.mem_of_mem_drop hx), by simp; omega⟩
theorem valOrder_bad (xs : List Order) : valOrder (xs ++ [⟨0, 0⟩]) = false := by
  rw [valOrder, List.all_append]
  have : ([⟨0, 0⟩] : List Order).all okOrder = false := by decide
  rw [this]; simp
theorem valOrder_nil : valOrder [] = true := by decide

set_option maxHeartbeats 4000000 in
theorem drSide (R f : Nat) (n : Int) (w : World) (hr : Rdr w R f) (hf : f ≤ 900000) (hn0 : 1 ≤ n) (hn : n ≤ 1000) :
    Calls Tryd.prog 31 #[.pointer (some ⟨R, 0, none⟩), .int .i64 n] w (DrS 33 2 flatOrder 7 R (f + 20) w) := by
  have HL := Lib.hid hr.lt
  have HR := Lib.hid hr; clear hr
  have HG := Lib.hid (gr_refl w R)
  obtain ⟨i0, hi0, hz0, hz1, hz2⟩ := info_parts info_Order
  have HI := Lib.hid (And.intro hi0 (And.intro hz0 (And.intro hz1 hz2))); clear hi0 hz0 hz1 hz2
  go_enter Tryd.func31, Tryd.ntmps31
  have hown : (w.alloc (.cells #[] 33)).ownsRow w.heap.size 33 2 (.slice (some ⟨w.heap.size, 0, none⟩) 0 0) 0 (flatOrder []) := World.ownsRow_lit w #[] 0 (Nat.le_refl _) (Nat.zero_le _) rfl
  replace HR := Lib.hid (rdr_alloc HR.out (.cells #[] 33))
  replace HG := Lib.hid (gr_alloc HG.out (.cells #[] 33))
  go_wp2_with fail
  refine (pickC R _ 6 _ HR.out (by omega) (by omega)).mono ?_
  rintro e w1 ⟨x1, rfl, hx1, hR, hg⟩
  replace hown := row_dr hown hg HL.out
  replace HR := Lib.hid hR
  replace HG := Lib.hid (HG.out.trans hg)
  clear hR hg
  go_wp2_with fail
  go_loopw [5, 6] (fun v i wr => ∃ (k : Nat) (acc : List Order), k ≤ 5 ∧ i = .int .i64 k ∧ acc.length + k ≤ 5 ∧ (∃ B c', v = .slice B acc.length c' ∧ wr.ownsRow w.heap.size 33 2 (.slice B acc.length c') acc.length (flatOrder acc)) ∧ Hid (Rdr wr R (f + 1 + 2 * (5 - k))) ∧ Hid (w.grownBy wr (some R))) (fun _ i _ => (intOf i).toNat)
  case atStart => exact ⟨x1, [], by omega, rfl, by simp; omega, ⟨_, _, rfl, hown⟩, Lib.hid (HR.out.mono (by omega)), HG⟩
  case round =>
    clear HR HG hown hx1
    obtain ⟨k, acc, hk, rfl, hacc, ⟨B, c', rfl, hown⟩, HR, HG⟩ := hrel
    by_cases hlt : 0 < k
    · skip
      go_wp2_with fail
      refine (pickC R _ 30 _ HR.out (by omega) (by omega)).mono ?_
      rintro e w3 ⟨p1, rfl, hp1, hR, hg⟩
      replace hown := row_dr hown hg HL.out
      replace HR := Lib.hid hR
      replace HG := Lib.hid (HG.out.trans hg)
      clear hR hg
      go_wp2_with fail
      refine (pickC R _ 9 _ HR.out (by omega) (by omega)).mono ?_
      rintro e w4 ⟨p2, rfl, hp2, hR, hg⟩
      replace hown := row_dr hown hg HL.out
      replace HR := Lib.hid hR
      replace HG := Lib.hid (HG.out.trans hg)
      clear hR hg
      go_wp2_with (at_builtin; refine wpList_app1 w4 rfl _ _ _ rfl w.heap.size 33 i0 _ 2 16 Tryd.underlying23 HI.out rfl (by omega) (.slice B acc.length c') acc.length (flatOrder acc) rfl hown #[.int .i64 (p1 : Int), .int .i64 (1 + (p2 : Int))] rfl rfl (by simp [Value.oneCell']) (by omega) (by omega) HG.out.size ?_; intro v' w9 hown9 hg9)
      have HR9 := Lib.hid (rdr_row HR.out hown hg9 HL.out)
      have HG9 := Lib.hid (gr_row HG.out hown hg9 (Nat.le_refl _))
      have hsn := snocOrder (r := ⟨p1, 1 + (p2 : Int)⟩) hown9 rfl
      clear hg9 hown hown9
      go_roundw
      case rel => exact ⟨k - 1, acc ++ [⟨p1, 1 + (p2 : Int)⟩], by omega, by rw [Int.ofNat_sub (by omega)]; rfl, by simp; omega, hsn, Lib.hid (HR9.out.mono (by omega)), HG9⟩
      case measure => simp [intOf]; omega
    · skip
      go_wp2_with fail
      refine (oddC R _ n _ HR.out (by omega) (by omega) (by omega)).mono ?_
      rintro e w3 ⟨bb, rfl, hR, hg⟩
      replace hown := row_dr hown hg HL.out
      replace HR := Lib.hid hR
      replace HG := Lib.hid (HG.out.trans hg)
      clear hR hg
      cases bb with
      | false =>
        go_wp2_with fail
        go_ret
        exact ⟨acc, B, c', rfl, by omega, row_fm hown, row_own hown, HR.out.mono (by omega), HG.out⟩
      | true =>
        go_wp2_with fail
        refine (pickC R _ 3 _ HR.out (by omega) (by omega)).mono ?_
        rintro e w4 ⟨p, rfl, hp, hR, hg⟩
        replace hown := row_dr hown hg HL.out
        replace HR := Lib.hid hR
        replace HG := Lib.hid (HG.out.trans hg)
        clear hR hg
        obtain rfl | rfl | rfl : p = 0 ∨ p = 1 ∨ p = 2 := by omega
        · go_wp2_with (at_make; refine wpList_make_full _ rfl _ _ _ rfl w.heap.size 33 i0 (.agg #[.int .i64 0, .int .i64 0]) 2 Tryd.underlying23 HI.out.1 HI.out.2.1 HI.out.2.2.1 .i64 .i64 7 7 7 rfl rfl rfl rfl (by rw [HI.out.2.2.2]; omega) (by unfold maxLen; omega) HG.out.size ?_; intro w5 hown5 hgr)
          go_ret
          refine ⟨List.replicate 7 Order.zero, some ⟨w4.heap.size, 0, none⟩, 7, rfl, by simp, ⟨by simp, .inr ⟨_, rfl⟩⟩, ?_, (HR.out.kept hgr (by simp)).mono (by omega), HG.out.andThen hgr (by simp)⟩
          have := row_own hown5
          have e : (madeCells (Value.agg #[Value.int IntKind.i64 0, Value.int IntKind.i64 0]).cells (7 * 2)).toList = flatOrder (List.replicate 7 Order.zero) := by kernel_rfl
          rw [e] at this
          exact this
        · skip
          go_wp2_with (at_builtin; refine wpList_app1 w4 rfl _ _ _ rfl w.heap.size 33 i0 _ 2 16 Tryd.underlying23 HI.out rfl (by omega) (.slice B acc.length c') acc.length (flatOrder acc) rfl hown #[.int .i64 (-1), .int .i64 2] rfl rfl (by simp [Value.oneCell']) (by omega) (by omega) HG.out.size ?_; intro v' w9 hown9 hg9)
          obtain ⟨B2, c2, rfl, hsn⟩ := snocOrder (r := (⟨-1, 2⟩ : Order)) hown9 rfl
          go_ret
          exact ⟨acc ++ [(⟨-1, 2⟩ : Order)], B2, c2, rfl, by simp; omega, row_fm hsn, row_own hsn, (rdr_row HR.out hown hg9 HL.out).mono (by omega), gr_row HG.out hown hg9 (Nat.le_refl _)⟩
        · skip
          go_wp2_with (at_builtin; refine wpList_app1 w4 rfl _ _ _ rfl w.heap.size 33 i0 _ 2 16 Tryd.underlying23 HI.out rfl (by omega) (.slice B acc.length c') acc.length (flatOrder acc) rfl hown #[.int .i64 3, .int .i64 0] rfl rfl (by simp [Value.oneCell']) (by omega) (by omega) HG.out.size ?_; intro v' w9 hown9 hg9)
          obtain ⟨B2, c2, rfl, hsn⟩ := snocOrder (r := (⟨3, 0⟩ : Order)) hown9 rfl
          go_ret
          exact ⟨acc ++ [(⟨3, 0⟩ : Order)], B2, c2, rfl, by simp; omega, row_fm hsn, row_own hsn, (rdr_row HR.out hown hg9 HL.out).mono (by omega), gr_row HG.out hown hg9 (Nat.le_refl _)⟩

end Go.Proofs.YtlhfkidgmdojjaaDoor
